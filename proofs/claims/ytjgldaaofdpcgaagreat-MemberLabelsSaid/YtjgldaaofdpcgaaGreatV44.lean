/- Walks and plain facts for the laws of membership, for all values and types that the heap holds (texts H0). -/
import Derived.Test.YtjgldaaofdpcgaaGreatV03
import Derived.Test.YtjgldaaofdpcgaaGreatV43
set_option linter.unusedVariables false
set_option linter.unusedSimpArgs false
namespace Go.Proofs.YtjgldaaofdpcgaaGreat
open Go.RowKit Go.Ident
set_option maxRecDepth 100000
theorem tf9 {num : Int} {e : EE} (h : entOk num e = true) (hn : e.nodes = 0) : e = .mk [] true zeroV:=by
  obtain ⟨args,f,r⟩:=e
  rw [t2x] at hn
  unfold entOk at h
  simp only [EE.parts,EE.args,EE.fails,EE.res,Bool.and_eq_true,Bool.or_eq_true,decide_eq_true_eq,Bool.not_eq_true'] at h hn
  cases f with
  | false =>
    simp only [Bool.false_eq_true,if_false,List.map_append,List.sum_append,List.map_cons,List.map_nil,List.sum_cons,List.sum_nil] at hn
    have:=t9g r
    omega
  | true =>
    simp only [if_true,List.append_nil] at hn
    have ha : args = []:=by
      cases args with
      | nil=>rfl
      | cons x t=>have:=t9g x;simp only [List.map_cons,List.sum_cons] at hn;omega
    have hr : r = zeroV:=tah (of_decide_eq_true (h.2.resolve_left (by decide)))
    rw [ha,hr]
theorem tdv {x : EE} : ∀ {l : List EE},ascL cmpE (x :: l) = true → ∀ y ∈ l,cmpE x y < 0
  | [],_,y,hy=>by simp at hy
  | z :: r,h,y,hy=>by
    obtain ⟨h1,h2⟩:=asc_cons.1 h
    have hz:=h1 z rfl
    rcases List.mem_cons.1 hy with rfl | hy
    · exact hz
    · have hy2:=tdv h2 y hy
      have:=cmpE_lo.tr x z y trivial trivial trivial (by omega) (by omega)
      rcases Int.lt_or_eq_of_le this.1 with h | h
      · exact h
      · have:=(this.2 h).1;omega
theorem tdw {num : Int} : ∀ {l : List EE},ascL cmpE l = true → (∀ e ∈ l,entOk num e = true) → l.length ≤ (l.map EE.nodes).sum + 1
  | [],_,_=>by simp
  | x :: r,h,hk=>by
    have h2:=(asc_cons.1 h).2
    have ih:=tdw h2 fun e he=>hk e (by simp [he])
    simp only [List.map_cons,List.sum_cons,List.length_cons]
    by_cases hx : x.nodes = 0
    · have hx0:=tf9 (hk x (by simp)) hx
      have hall : ∀ l : List EE,(∀ y ∈ l,1 ≤ y.nodes) → l.length ≤ (l.map EE.nodes).sum:=by
        intro l
        induction l with
        | nil=>intro _;simp
        | cons y t ih=>intro h;have:=h y (by simp);have:=ih fun z hz=>h z (by simp [hz]);simp only [List.map_cons,List.sum_cons,List.length_cons];omega
      have:=hall r fun y hy=>by
        rcases Nat.eq_zero_or_pos y.nodes with e | e
        · have hy0:=tf9 (hk y (by simp [hy])) e
          have:=tdv h y hy
          rw [hx0,hy0,cmpE_lo.self trivial] at this
          omega
        · exact e
      omega
    · omega
def Shrt (V : VV) : Prop:=(V.valid = true ∨ V = zeroV) ∧ V.nodes ≤ 200000
theorem Shrt.kids {V : VV} (h : Shrt V) : V.kids.length ≤ 200000 ∧ ∀ x ∈ V.kids,Shrt x:=by
  obtain ⟨hv,hn⟩:=h
  have hp:=t9h V
  refine ⟨by have : V.kids.length ≤ V.parts.length := by unfold VV.parts; simp
             omega,fun x hx=>?_⟩
  have hxp : x ∈ V.parts:=by unfold VV.parts;simp [hx]
  refine ⟨?_,by have:=t8j hxp;omega⟩
  rcases hv with hv | rfl
  · exact .inl (tc2 hv hx)
  · simp [zeroV,VV.kids] at hx
theorem Shrt.ents {V : VV} (h : Shrt V) : V.ents.length ≤ 200001 ∧ ∀ e ∈ V.ents,e.args.length ≤ 200000 ∧ (∀ x ∈ e.args,Shrt x) ∧ Shrt e.res:=by
  obtain ⟨hv,hn⟩:=h
  rcases hv with hv | rfl
  · have hnode:=t8h hv
    by_cases hk : V.kind = 9
    · unfold nodeV at hnode
      simp [hk] at hnode
      obtain ⟨-,-,hasc,hok⟩:=hnode
      have hs : (V.ents.map EE.nodes).sum ≤ V.nodes:=by
        rw [t5k V];unfold VV.parts
        simp only [List.map_append,List.sum_append]
        rw [t5c];omega
      refine ⟨by have:=tdw hasc hok;omega,fun e he=>?_⟩
      obtain ⟨hva,hvr⟩:=tc3 hv he
      have hpart : ∀ x ∈ e.parts,x.nodes < V.nodes:=fun x hx=>t8j (by unfold VV.parts;simp only [List.mem_append,List.mem_flatMap];exact .inr ⟨e,he,hx⟩)
      have hmax : e.args.length ≤ V.nodes:=by
        have h1:=tbp e.args
        have h2 : (e.args.map VV.nodes).sum ≤ e.nodes:=by rw [t2x];unfold EE.parts;simp only [List.map_append,List.sum_append];omega
        have h3 : e.nodes ≤ (V.ents.map EE.nodes).sum:=by
          obtain ⟨s,t,hst⟩:=List.append_of_mem he
          rw [hst];simp only [List.map_append,List.sum_append,List.map_cons,List.sum_cons];omega
        omega
      refine ⟨by omega,fun x hx=>⟨.inl (hva x hx),by have:=hpart x (by unfold EE.parts;simp [hx]);omega⟩,?_⟩
      cases hf : e.fails with
      | false=>exact ⟨.inl (hvr hf),by have:=hpart e.res (by unfold EE.parts;simp [hf]);omega⟩
      | true =>
        have:=hok e he
        unfold entOk at this
        rw [hf] at this
        simp at this
        have hz:=tah this.2
        exact ⟨.inr hz,by rw [hz];decide⟩
    · have he : V.ents = []:=by
        unfold nodeV at hnode
        simp only [Bool.and_eq_true,Bool.or_eq_true,decide_eq_true_eq] at hnode
        exact List.isEmpty_iff.1 (hnode.1.2.2.resolve_left hk)
      rw [he];exact ⟨by simp,fun e h=>by simp at h⟩
  · exact ⟨by simp [zeroV,VV.ents],fun e h=>by simp [zeroV,VV.ents] at h⟩
set_option maxHeartbeats 32000000 in
theorem tek (E : Nat → Bool) (l : List EE) (w : World) (v : Value) (hE : Old E w.heap.size) (h : EY (we E w) v l) (hl : l.length ≤ 1000000) : Calls Tryz.prog 35 #[v] w fun e w'=>∃ v' ,e = .returned v' ∧ EY (we E w') v' (entsE l) ∧ Below w.heap.size w w':=by
  have Hbw:=zH hE
  obtain ⟨d,p,c,rfl,hr⟩:=h
  have HR:=zH hr
  clear hr hE
  go_enter Tryz.func35,Tryz.ntmps35
  go_wp2
  go_loopw [3,4] (fun v i wr=>∃ (j : Nat) (O : List EE) (xs : List Value),j ≤ l.length ∧ i = .int .i64 j ∧ O = entsE (l.take j) ∧ wr.ownsRow w.heap.size 55 9 v O.length xs ∧ Ch 9 (ES (we E w) d) O xs ∧ Below w.heap.size w wr) (fun _ i _=>l.length - (intOf i).toNat)
  case atStart=>exact ⟨0,[],[],by omega,rfl,rfl,World.ownsRow_nil _ _ _ _,Ch.nil,Below.refl _ _⟩
  case round =>
    obtain ⟨j,O,xs,hj,rfl,hO,ho,hc,hbr⟩:=hrel
    have Ho:=zH ho;have Hc:=zH hc;have Hbr:=zH hbr;have HO:=zH hO
    have hol : O.length ≤ 1000000:=by rw [hO];have:=tc5 (l.take j);rw [List.length_take] at this;omega
    clear ho hc hbr hO
    by_cases hlt : j < l.length
    · have d9 : decide (j < l.length) = true:=by simp;omega
      obtain ⟨a,o,cs,rfl,hab,-,hrg,hX⟩:=HR.out.at hlt
      have hab : a < w.heap.size:=by rwa [t0e] at hab
      have Hax:=zH hab
      obtain ⟨x9,xa,x1,x2,x3,x4,x5,x6,x7,x8,rfl⟩:=hX.nine
      have HXb:=zH hX
      have HX:=zH (hX.sub (t3e E w))
      have c0:=(t0o (hrg 0 _ rfl)).2
      have c1:=(t0o (hrg 1 _ rfl)).2
      have c2:=(t0o (hrg 2 _ rfl)).2
      have c3:=(t0o (hrg 3 _ rfl)).2
      have c4:=(t0o (hrg 4 _ rfl)).2
      have c5:=(t0o (hrg 5 _ rfl)).2
      have c6:=(t0o (hrg 6 _ rfl)).2
      have c7:=(t0o (hrg 7 _ rfl)).2
      have c8:=(t0o (hrg 8 _ rfl)).2
      rw [Nat.add_zero] at c0
      have Hins:=zH (tba hlt)
      rw [← HO.out] at Hins
      have Hlast:=zH hlt
      clear hrg hX
      generalize l[j] = x at *
      obtain ⟨q,cap1,rfl⟩:=t0m Ho.out
      have hcap1 : O.length ≤ cap1:=t3y Ho.out
      go_wp2
      go_loopw [5] (fun i wi=>∃ k : Nat,k ≤ O.length ∧ i = .int .i64 k ∧ (∀ t (ht : t < O.length),t < k → cmpE O[t] x < 0) ∧ wi.ownsRow w.heap.size 55 9 (.slice q O.length cap1) O.length xs ∧ Below w.heap.size w wi) (fun i _=>O.length - (intOf i).toNat)
      case atStart=>exact ⟨0,by omega,rfl,fun t _ h=>by omega,Ho.out,Hbr.out⟩
      case round =>
        obtain ⟨k,hk,rfl,hls,ho2,hb2⟩:=hrel
        have Ho2:=zH ho2;have Hb2:=zH hb2;have Hls:=zH hls
        clear ho2 hb2 hls
        have z0:=t0a Hb2.out c0
        have z1:=t0a Hb2.out c1
        have z2:=t0a Hb2.out c2
        have z3:=t0a Hb2.out c3
        have z4:=t0a Hb2.out c4
        have z5:=t0a Hb2.out c5
        have z6:=t0a Hb2.out c6
        have z7:=t0a Hb2.out c7
        have z8:=t0a Hb2.out c8
        by_cases hkl : k < O.length
        · have d8 : decide (k < O.length) = true:=by simp;omega
          obtain ⟨q',cap',eq',hrw⟩:=t1k Ho2.out Hc.out (by omega)
          injection eq' with eq1 _ eq3
          subst eq1 eq3
          obtain ⟨g,og,cs',rfl,hg,-,hrg',hY⟩:=hrw.at hkl
          obtain ⟨y9,ya,y1,y2,y3,y4,y5,y6,y7,y8,rfl⟩:=hY.nine
          have HY:=zH (hY.sub (t3e E w))
          have v0:=hrg' 0 _ rfl
          have v1:=hrg' 1 _ rfl
          have v2:=hrg' 2 _ rfl
          have v3:=hrg' 3 _ rfl
          have v4:=hrg' 4 _ rfl
          have v5:=hrg' 5 _ rfl
          have v6:=hrg' 6 _ rfl
          have v7:=hrg' 7 _ rfl
          have v8:=hrg' 8 _ rfl
          rw [Nat.add_zero] at v0
          have Hstep:=zH (show cmpE O[k] x < 0 → ∀ t (ht : t < O.length),t < k + 1 → cmpE O[t] x < 0 from fun h t ht htk=>by
            rcases Nat.lt_succ_iff_lt_or_eq.1 htk with g2 | rfl
            · exact Hls.out t ht g2
            · exact h)
          have Heq:=zH (fun h=>tbs hkl Hls.out h)
          have Hat:=zH (fun (h1 : ¬ cmpE O[k] x < 0) (h2 : ¬ cmpE O[k] x = 0)=>t7p hk Hls.out (fun _=>⟨h1,h2⟩))
          clear hrw hrg' hY Hls
          generalize O[k] = y at *
          have Hcall:=zH (fun (w5 : World) (h : Below w.heap.size w w5)=>t4a y x w5 _ _ _ _ (HY.out.below h) (HX.out.below h))
          by_cases h1 : cmpE y x < 0
          · have Hst2:=zH (Hstep.out h1)
            have d1 : decide (cmpE y x < 0) = true:=by simp [h1]
            clear h1 Hstep Heq Hat
            generalize cmpE y x = cc at *
            go_wp2_with (first
              | (with_reducible refine rg ?_)
              | (with_reducible refine fo ?_)
              | (go_at_call 69;refine (Hcall.out _ Hb2.out.drew).mono ?_;rintro e w6 ⟨rfl,hb6⟩;have Ho6:=zH (t0d (t1n Ho2.out) hb6 (Nat.le_refl _));have Hb6:=zH (Hb2.out.drew.trans (hb6.mono Hb2.out.size));clear hb6))
            exact ⟨⟨k + 1,by omega,by go_num,Hst2.out,Ho6.out,Hb6.out⟩,by simp [intOf];omega⟩
          · have d1 : decide (cmpE y x < 0) = false:=by simp;omega
            by_cases h2 : cmpE y x = 0
            · have Hk2:=zH (Heq.out h2)
              have d2 : (cmpE y x == 0) = true:=by simp [h2]
              clear h1 h2 Hstep Heq Hat
              generalize cmpE y x = cc at *
              go_wp2_with (first
                | (with_reducible refine rg ?_)
                | (with_reducible refine fo ?_)
                | (go_at_call 69;refine (Hcall.out _ Hb2.out.drew).mono ?_;rintro e w6 ⟨rfl,hb6⟩;have Ho6:=zH (t0d (t1n Ho2.out) hb6 (Nat.le_refl _));have Hb6:=zH (Hb2.out.drew.trans (hb6.mono Hb2.out.size));have z0':=t0a hb6 z0;have v0':=t0a hb6 v0;have z1':=t0a hb6 z1;have v1':=t0a hb6 v1;have z2':=t0a hb6 z2;have v2':=t0a hb6 v2;have z3':=t0a hb6 z3;have v3':=t0a hb6 v3;have z4':=t0a hb6 z4;have v4':=t0a hb6 v4;have z5':=t0a hb6 z5;have v5':=t0a hb6 v5;have z6':=t0a hb6 z6;have v6':=t0a hb6 v6;have z7':=t0a hb6 z7;have v7':=t0a hb6 v7;have z8':=t0a hb6 z8;have v8':=t0a hb6 v8;clear hb6 z0 v0 z1 v1 z2 v2 z3 v3 z4 v4 z5 v5 z6 v6 z7 v7 z8 v8;have Hb2:=0)
                | (go_at_call 69;refine (Hcall.out _ Hb6.out.drew).mono ?_;rintro e w7 ⟨rfl,hb7⟩;have Ho7:=zH (t0d (t1n Ho6.out) hb7 (Nat.le_refl _));have Hb7:=zH (Hb6.out.drew.trans (hb7.mono Hb6.out.size));clear hb7))
              exact ⟨⟨j + 1,O,xs,by omega,by go_num,by rw [Hins.out,Hk2.out],Ho7.out,Hc.out,Hb7.out⟩,by simp [intOf];omega⟩
            · have Hres:=zH (Hat.out h1 h2)
              have d2 : (cmpE y x == 0) = false:=by simp [h2]
              clear h1 h2 Hstep Heq Hat
              generalize cmpE y x = cc at *
              go_upto_region 9 with (first
                | (with_reducible refine rg ?_)
                | (with_reducible refine fo ?_)
                | (go_at_call 69;refine (Hcall.out _ Hb2.out.drew).mono ?_;rintro e w6 ⟨rfl,hb6⟩;have Ho6:=zH (t0d (t1n Ho2.out) hb6 (Nat.le_refl _));have Hb6:=zH (Hb2.out.drew.trans (hb6.mono Hb2.out.size));have z0':=t0a hb6 z0;have v0':=t0a hb6 v0;have z1':=t0a hb6 z1;have v1':=t0a hb6 v1;have z2':=t0a hb6 z2;have v2':=t0a hb6 v2;have z3':=t0a hb6 z3;have v3':=t0a hb6 v3;have z4':=t0a hb6 z4;have v4':=t0a hb6 v4;have z5':=t0a hb6 z5;have v5':=t0a hb6 v5;have z6':=t0a hb6 z6;have v6':=t0a hb6 v6;have z7':=t0a hb6 z7;have v7':=t0a hb6 v7;have z8':=t0a hb6 z8;have v8':=t0a hb6 v8;clear hb6 z0 v0 z1 v1 z2 v2 z3 v3 z4 v4 z5 v5 z6 v6 z7 v7 z8 v8;have Hb2:=0)
                | (go_at_call 69;refine (Hcall.out _ Hb6.out.drew).mono ?_;rintro e wd ⟨rfl,hb7⟩;have Hod:=zH (t0d (t1n Ho6.out) hb7 (Nat.le_refl _));have Hbd:=zH (Hb6.out.drew.trans (hb7.mono Hb6.out.size));clear hb7))
              rw [← Hins.out] at Hres
              have Hrc:=zH (RC.of_own Hod.out)
              have Hone:=zH (Hc.out.cells fun _ _ h=>h.one)
              have HcT:=zH (Hc.out.take (k:=k) hk)
              have HcD:=zH (Hc.out.drop (k:=k) hk)
              have HoT:=zH (fun u hu=>Hone.out u (List.mem_of_mem_take (i:=k * 9) hu))
              have HoD:=zH (fun u hu=>Hone.out u (List.mem_of_mem_drop (i:=k * 9) hu))
              have HoX:=zH (HX.out.one)
              have Hlx:=zH (show xs.length = O.length * 9 from Hod.out.1)
              have Hsd:=zH Hbd.out.size
              have HrD:=zH (show RC wd 9 (some ⟨g,og + k * 9,none⟩) (O.length - k) (xs.drop (k * 9)) from Hrc.out.drop hk)
              have Q0:=zH (t0a Hbd.out c0)
              have Q1:=zH (t0a Hbd.out c1)
              have Q2:=zH (t0a Hbd.out c2)
              have Q3:=zH (t0a Hbd.out c3)
              have Q4:=zH (t0a Hbd.out c4)
              have Q5:=zH (t0a Hbd.out c5)
              have Q6:=zH (t0a Hbd.out c6)
              have Q7:=zH (t0a Hbd.out c7)
              have Q8:=zH (t0a Hbd.out c8)
              clear c0 c1 c2 c3 c4 c5 c6 c7 c8 d8
              go_wp2_with (first
                | ((with_reducible refine Lex.t0z ?_);refine fE (by repeat first | exact LexK.t0v | refine LexK.t0p rfl ?_ | refine LexK.t0q (by decide +kernel) ?_ | refine LexK.t0c rfl Hax.out Hn0.out ?_) ?_)
                | ((with_reducible refine Lex.t0r ?_);refine LexK.t0i (fun b=>b < w.heap.size) (by kernel_rfl) (by decide +kernel) ?_;have n0 : w3.drew.cell? ⟨a,o + j * 9,none⟩ = _:=(Hb3.out.cell (p:=⟨a,_,none⟩) (Nat.lt_of_lt_of_le Hax.out Hsd.out)).trans Q0.out;have n1 : w3.drew.cell? ⟨a,o + j * 9 + 1,none⟩ = _:=(Hb3.out.cell (p:=⟨a,_,none⟩) (Nat.lt_of_lt_of_le Hax.out Hsd.out)).trans Q1.out;have n2 : w3.drew.cell? ⟨a,o + j * 9 + 2,none⟩ = _:=(Hb3.out.cell (p:=⟨a,_,none⟩) (Nat.lt_of_lt_of_le Hax.out Hsd.out)).trans Q2.out;have n3 : w3.drew.cell? ⟨a,o + j * 9 + 3,none⟩ = _:=(Hb3.out.cell (p:=⟨a,_,none⟩) (Nat.lt_of_lt_of_le Hax.out Hsd.out)).trans Q3.out;have n4 : w3.drew.cell? ⟨a,o + j * 9 + 4,none⟩ = _:=(Hb3.out.cell (p:=⟨a,_,none⟩) (Nat.lt_of_lt_of_le Hax.out Hsd.out)).trans Q4.out;have n5 : w3.drew.cell? ⟨a,o + j * 9 + 5,none⟩ = _:=(Hb3.out.cell (p:=⟨a,_,none⟩) (Nat.lt_of_lt_of_le Hax.out Hsd.out)).trans Q5.out;have n6 : w3.drew.cell? ⟨a,o + j * 9 + 6,none⟩ = _:=(Hb3.out.cell (p:=⟨a,_,none⟩) (Nat.lt_of_lt_of_le Hax.out Hsd.out)).trans Q6.out;have n7 : w3.drew.cell? ⟨a,o + j * 9 + 7,none⟩ = _:=(Hb3.out.cell (p:=⟨a,_,none⟩) (Nat.lt_of_lt_of_le Hax.out Hsd.out)).trans Q7.out;have n8 : w3.drew.cell? ⟨a,o + j * 9 + 8,none⟩ = _:=(Hb3.out.cell (p:=⟨a,_,none⟩) (Nat.lt_of_lt_of_le Hax.out Hsd.out)).trans Q8.out;have Hn0:=zH n0)
                | (with_reducible first | refine qH ?_ | refine LexK.t0u ?_ | refine LexK.t0y ?_)
                | ((with_reducible refine Lex.t1c ?_);first
                    | with_reducible refine LexK.t0f hex5.out ?_
                    | refine LexK.t0f hex4.out ?_
                    | refine LexK.t0f (LexK.Ext.alloc _ _) ?_)
                | (at_builtin;first
                    | (refine t0s rfl (.const (.slice none 0 0)) (.tmp 49) 25 rfl 55 (by kernel_rfl) t2h rfl (by decide) (by decide) wd.heap.size wd (some ⟨g,og,none⟩) 0 k _ [] (xs.take (k * 9)) (Nat.le_refl _) (.slice none 0 0) rfl rfl (World.ownsRow_nil _ _ _ _) (Hrc.out.take hk) HoT.out (by omega) ?_;intro v3 w3 ho3 hf3;have Hb3:=zH (hf3.below (Nat.le_refl _) (by simp) (fun g hg=>by simp [Value.ownBlock] at hg));rw [Nat.zero_add,List.nil_append] at ho3;obtain ⟨p3,cap3,rfl⟩:=t0m ho3;have Ho3:=zH ho3;clear ho3 hf3)
                    | (refine t0k rfl (.tmp 51) (.tmp 56) 25 rfl 55 (by kernel_rfl) t2h rfl (by decide) (by decide) wd.heap.size _ w3.drew.heap.size [.slice x9 x.args.length xa,.bool x.fails,.int .i64 x.res.kind,.int .i64 x.res.num,.string x.res.text,.slice x1 x.res.kids.length x2,.slice x3 x.res.keys.length x4,.slice x5 x.res.ents.length x6,.slice x7 x.res.labels.length x8] (heap_alloc_new w3.drew _) (Nat.le_trans Hb3.out.size (by simp)) rfl HoX.out (.slice p3 k cap3) k (xs.take (k * 9)) rfl (t0d Ho3.out ((Below.refl _ _).drew.alloc (Nat.le_refl _) _) (Nat.le_refl _)) (by omega) rfl ?_;intro v4 w4 ho4 hf4;have Hb4:=zH ((Hb3.out.drew.alloc Hb3.out.size _).trans (hf4.below (Nat.le_trans Hb3.out.size (by simp)) (by simp) fun g hg=>(Ho3.out.lt g hg).1));have hex4:=zH (show LexK.Ext (fun b=>b < w.heap.size) (w3.drew.alloc (.cells #[.slice x9 x.args.length xa,.bool x.fails,.int .i64 x.res.kind,.int .i64 x.res.num,.string x.res.text,.slice x1 x.res.kids.length x2,.slice x3 x.res.keys.length x4,.slice x5 x.res.ents.length x6,.slice x7 x.res.labels.length x8] 55)) w4 from t2c (hf4.below (Nat.le_trans Hsd.out (Nat.le_trans Hb3.out.size (by simp))) (by simp) fun g hg=>Nat.le_trans Hsd.out (Ho3.out.lt g hg).1));obtain ⟨p4,cap4,rfl⟩:=t0m ho4;have Ho4:=zH ho4;clear ho4 hf4)
                    | (refine t0s rfl (.tmp 57) (.tmp 60) 25 rfl 55 (by kernel_rfl) t2h rfl (by decide) (by decide) wd.heap.size w4 (some ⟨g,og + k * 9,none⟩) (k + 1) (O.length - k) _ (xs.take (k * 9) ++ [.slice x9 x.args.length xa,.bool x.fails,.int .i64 x.res.kind,.int .i64 x.res.num,.string x.res.text,.slice x1 x.res.kids.length x2,.slice x3 x.res.keys.length x4,.slice x5 x.res.ents.length x6,.slice x7 x.res.labels.length x8]) (xs.drop (k * 9)) Hb4.out.size (.slice p4 (k + 1) cap4) rfl rfl Ho4.out (HrD.out.below Hb4.out) HoD.out (by omega) ?_;intro v5 w5 ho5 hf5;have Hb5:=zH (Hb4.out.trans (hf5.below Hb4.out.size (by simp) fun g hg=>(Ho4.out.lt g hg).1));have hex5:=zH (show LexK.Ext (fun b=>b < w.heap.size) w4 w5 from t2c (hf5.below (Nat.le_trans Hsd.out Hb4.out.size) (by simp) fun g hg=>Nat.le_trans Hsd.out (Ho4.out.lt g hg).1));have Ho5:=zH ho5;clear ho5 hf5)))
              have hlen : (O.take k ++ [x] ++ O.drop k).length = k + 1 + (O.length - k):=by rw [List.length_append,List.length_append,List.length_take,List.length_drop,List.length_singleton];omega
              refine ⟨⟨j + 1,O.take k ++ [x] ++ O.drop k,xs.take (k * 9) ++ [.slice x9 x.args.length xa,.bool x.fails,.int .i64 x.res.kind,.int .i64 x.res.num,.string x.res.text,.slice x1 x.res.kids.length x2,.slice x3 x.res.keys.length x4,.slice x5 x.res.ents.length x6,.slice x7 x.res.labels.length x8] ++ (xs.drop (k * 9)),by omega,by go_num,Hres.out.symm,by rw [hlen];exact t1v Ho5.out Hsd.out,?_,Hbd.out.trans (Hb5.out.mono Hsd.out)⟩,by simp [intOf];omega⟩
              exact (HcT.out.append (Ch.single rfl HXb.out)).append HcD.out
        · obtain rfl : k = O.length:=by omega
          have d8 : decide (O.length < O.length) = false:=by simp
          have Hres:=zH (t7p (Nat.le_refl _) Hls.out (fun h=>absurd h (Nat.lt_irrefl _)))
          clear Hls
          go_upto_region 9 with (first
            | (with_reducible refine rg ?_)
            | (with_reducible refine fo ?_))
          have Hod:=zH (t0d Ho2.out (Below.refl _ _).drew.drew (Nat.le_refl _))
          have Hbd:=zH Hb2.out.drew.drew
          clear z0 z1 z2 z3 z4 z5 z6 z7 z8 Ho2 Hb2
          generalize wr.drew.drew = wd at *
          rw [← Hins.out] at Hres
          have Hrc:=zH (RC.of_own Hod.out)
          have Hone:=zH (Hc.out.cells fun _ _ h=>h.one)
          have HcT:=zH (Hc.out.take (k:=O.length) (Nat.le_refl _))
          have HcD:=zH (Hc.out.drop (k:=O.length) (Nat.le_refl _))
          have HoT:=zH (fun u hu=>Hone.out u (List.mem_of_mem_take (i:=O.length * 9) hu))
          have HoD:=zH (fun u hu=>Hone.out u (List.mem_of_mem_drop (i:=O.length * 9) hu))
          have HoX:=zH (HX.out.one)
          have Hlx:=zH (show xs.length = O.length * 9 from Hod.out.1)
          have Hsd:=zH Hbd.out.size
          have Q0:=zH (t0a Hbd.out c0)
          have Q1:=zH (t0a Hbd.out c1)
          have Q2:=zH (t0a Hbd.out c2)
          have Q3:=zH (t0a Hbd.out c3)
          have Q4:=zH (t0a Hbd.out c4)
          have Q5:=zH (t0a Hbd.out c5)
          have Q6:=zH (t0a Hbd.out c6)
          have Q7:=zH (t0a Hbd.out c7)
          have Q8:=zH (t0a Hbd.out c8)
          clear c0 c1 c2 c3 c4 c5 c6 c7 c8 d8
          go_wp2_with (first
            | ((with_reducible refine Lex.t0z ?_);refine fE (by repeat first | exact LexK.t0v | refine LexK.t0p rfl ?_ | refine LexK.t0q (by decide +kernel) ?_ | refine LexK.t0c rfl Hax.out Hn0.out ?_) ?_)
            | ((with_reducible refine Lex.t0r ?_);refine LexK.t0i (fun b=>b < w.heap.size) (by kernel_rfl) (by decide +kernel) ?_;have n0 : w3.drew.cell? ⟨a,o + j * 9,none⟩ = _:=(Hb3.out.cell (p:=⟨a,_,none⟩) (Nat.lt_of_lt_of_le Hax.out Hsd.out)).trans Q0.out;have n1 : w3.drew.cell? ⟨a,o + j * 9 + 1,none⟩ = _:=(Hb3.out.cell (p:=⟨a,_,none⟩) (Nat.lt_of_lt_of_le Hax.out Hsd.out)).trans Q1.out;have n2 : w3.drew.cell? ⟨a,o + j * 9 + 2,none⟩ = _:=(Hb3.out.cell (p:=⟨a,_,none⟩) (Nat.lt_of_lt_of_le Hax.out Hsd.out)).trans Q2.out;have n3 : w3.drew.cell? ⟨a,o + j * 9 + 3,none⟩ = _:=(Hb3.out.cell (p:=⟨a,_,none⟩) (Nat.lt_of_lt_of_le Hax.out Hsd.out)).trans Q3.out;have n4 : w3.drew.cell? ⟨a,o + j * 9 + 4,none⟩ = _:=(Hb3.out.cell (p:=⟨a,_,none⟩) (Nat.lt_of_lt_of_le Hax.out Hsd.out)).trans Q4.out;have n5 : w3.drew.cell? ⟨a,o + j * 9 + 5,none⟩ = _:=(Hb3.out.cell (p:=⟨a,_,none⟩) (Nat.lt_of_lt_of_le Hax.out Hsd.out)).trans Q5.out;have n6 : w3.drew.cell? ⟨a,o + j * 9 + 6,none⟩ = _:=(Hb3.out.cell (p:=⟨a,_,none⟩) (Nat.lt_of_lt_of_le Hax.out Hsd.out)).trans Q6.out;have n7 : w3.drew.cell? ⟨a,o + j * 9 + 7,none⟩ = _:=(Hb3.out.cell (p:=⟨a,_,none⟩) (Nat.lt_of_lt_of_le Hax.out Hsd.out)).trans Q7.out;have n8 : w3.drew.cell? ⟨a,o + j * 9 + 8,none⟩ = _:=(Hb3.out.cell (p:=⟨a,_,none⟩) (Nat.lt_of_lt_of_le Hax.out Hsd.out)).trans Q8.out;have Hn0:=zH n0)
            | (with_reducible first | refine qH ?_ | refine LexK.t0u ?_ | refine LexK.t0y ?_)
            | ((with_reducible refine Lex.t1c ?_);first
                | with_reducible refine LexK.t0f hex5.out ?_
                | refine LexK.t0f hex4.out ?_
                | refine LexK.t0f (LexK.Ext.alloc _ _) ?_)
            | (at_builtin;first
                | (refine t0s rfl (.const (.slice none 0 0)) (.tmp 49) 25 rfl 55 (by kernel_rfl) t2h rfl (by decide) (by decide) wd.heap.size wd q 0 O.length _ [] (xs.take (O.length * 9)) (Nat.le_refl _) (.slice none 0 0) rfl rfl (World.ownsRow_nil _ _ _ _) (Hrc.out.take (Nat.le_refl _)) HoT.out (by omega) ?_;intro v3 w3 ho3 hf3;have Hb3:=zH (hf3.below (Nat.le_refl _) (by simp) (fun g hg=>by simp [Value.ownBlock] at hg));rw [Nat.zero_add,List.nil_append] at ho3;obtain ⟨p3,cap3,rfl⟩:=t0m ho3;have Ho3:=zH ho3;clear ho3 hf3)
                | (refine t0k rfl (.tmp 51) (.tmp 56) 25 rfl 55 (by kernel_rfl) t2h rfl (by decide) (by decide) wd.heap.size _ w3.drew.heap.size [.slice x9 x.args.length xa,.bool x.fails,.int .i64 x.res.kind,.int .i64 x.res.num,.string x.res.text,.slice x1 x.res.kids.length x2,.slice x3 x.res.keys.length x4,.slice x5 x.res.ents.length x6,.slice x7 x.res.labels.length x8] (heap_alloc_new w3.drew _) (Nat.le_trans Hb3.out.size (by simp)) rfl HoX.out (.slice p3 O.length cap3) O.length (xs.take (O.length * 9)) rfl (t0d Ho3.out ((Below.refl _ _).drew.alloc (Nat.le_refl _) _) (Nat.le_refl _)) (by omega) rfl ?_;intro v4 w4 ho4 hf4;have Hb4:=zH ((Hb3.out.drew.alloc Hb3.out.size _).trans (hf4.below (Nat.le_trans Hb3.out.size (by simp)) (by simp) fun g hg=>(Ho3.out.lt g hg).1));have hex4:=zH (show LexK.Ext (fun b=>b < w.heap.size) (w3.drew.alloc (.cells #[.slice x9 x.args.length xa,.bool x.fails,.int .i64 x.res.kind,.int .i64 x.res.num,.string x.res.text,.slice x1 x.res.kids.length x2,.slice x3 x.res.keys.length x4,.slice x5 x.res.ents.length x6,.slice x7 x.res.labels.length x8] 55)) w4 from t2c (hf4.below (Nat.le_trans Hsd.out (Nat.le_trans Hb3.out.size (by simp))) (by simp) fun g hg=>Nat.le_trans Hsd.out (Ho3.out.lt g hg).1));obtain ⟨p4,cap4,rfl⟩:=t0m ho4;have Ho4:=zH ho4;clear ho4 hf4)
                | (refine t0s rfl (.tmp 57) (.tmp 60) 25 rfl 55 (by kernel_rfl) t2h rfl (by decide) (by decide) wd.heap.size w4 _ (O.length + 1) 0 _ (xs.take (O.length * 9) ++ [.slice x9 x.args.length xa,.bool x.fails,.int .i64 x.res.kind,.int .i64 x.res.num,.string x.res.text,.slice x1 x.res.kids.length x2,.slice x3 x.res.keys.length x4,.slice x5 x.res.ents.length x6,.slice x7 x.res.labels.length x8]) [] Hb4.out.size (.slice p4 (O.length + 1) cap4) rfl rfl Ho4.out (RC.nil _ _ _) (by simp) (by omega) ?_;intro v5 w5 ho5 hf5;have Hb5:=zH (Hb4.out.trans (hf5.below Hb4.out.size (by simp) fun g hg=>(Ho4.out.lt g hg).1));have hex5:=zH (show LexK.Ext (fun b=>b < w.heap.size) w4 w5 from t2c (hf5.below (Nat.le_trans Hsd.out Hb4.out.size) (by simp) fun g hg=>Nat.le_trans Hsd.out (Ho4.out.lt g hg).1));have Ho5:=zH ho5;clear ho5 hf5)))
          have hlen : (O.take O.length ++ [x] ++ O.drop O.length).length = O.length + 1 + 0:=by rw [List.length_append,List.length_append,List.length_take,List.length_drop,List.length_singleton];omega
          refine ⟨⟨j + 1,O.take O.length ++ [x] ++ O.drop O.length,xs.take (O.length * 9) ++ [.slice x9 x.args.length xa,.bool x.fails,.int .i64 x.res.kind,.int .i64 x.res.num,.string x.res.text,.slice x1 x.res.kids.length x2,.slice x3 x.res.keys.length x4,.slice x5 x.res.ents.length x6,.slice x7 x.res.labels.length x8] ++ [],by omega,by go_num,Hres.out.symm,by rw [hlen];exact t1v Ho5.out Hsd.out,?_,Hbd.out.trans (Hb5.out.mono Hsd.out)⟩,by simp [intOf];omega⟩
          have hz:=HcD.out
          have ez : xs.drop (O.length * 9) = []:=List.drop_eq_nil_of_le (by rw [Hlx.out];exact Nat.le_refl _)
          rw [ez] at hz
          exact (HcT.out.append (Ch.single rfl HXb.out)).append hz
    · obtain rfl : j = l.length:=by omega
      have d9 : decide (l.length < l.length) = false:=by simp
      rw [List.take_length] at HO
      go_wp2
      go_ret
      obtain ⟨pz,cz,e7,hrw⟩:=t1k (t1o Ho.out Hbw.out) Hc.out (by omega)
      refine ⟨_,rfl,?_,Hbr.out⟩
      rw [← HO.out]
      exact ⟨d,pz,cz,e7,hrw.mono fun x cs _ h=>h.below (by rw [t0e];exact t1e Hbr.out)⟩
def gE (E : Nat → Bool) (A B : Nat) (v : Value) : Nat → Bool:=fun k=>E k || ((decide (A ≤ k) && decide (k < B)) || decide (v.ownBlock = some k))
theorem gE_b {E : Nat → Bool} {A B : Nat} {v : Value} {k : Nat} (h1 : A ≤ k) (h2 : k < B) : gE E A B v k = true:=by simp [gE,h1,h2]
theorem tbi {w : World} {E : Nat → Bool} {A B B1 n s : Nat} {e : TypeId} {v : Value} {xs : List Value} (hE : Old E A) (hA : A ≤ w.heap.size) (hB : B ≤ w.heap.size) (h : w.ownsRow B1 e s v n xs) : Old (gE E A B v) w.heap.size:=fun k hk=>by
  simp only [gE,Bool.or_eq_false_iff,Bool.and_eq_false_iff,decide_eq_false_iff_not]
  exact ⟨hE k (by omega),.inr (by omega),fun e=>by have:=(h.lt k e).2;omega⟩
theorem tjp (E : Nat → Bool) (A B : Nat) (v : Value) (w : World) : Sub (we (gE E A B v) w) (we E w):=t2f w fun k h=>by simp [gE,h]
theorem t9w (E : Nat → Bool) (A B : Nat) (v : Value) (w : World) : Sub (we (gE E A B v) w) (we (gE E A B (.slice none 0 0)) w):=t2f w fun k h=>by
  simp only [gE,Value.ownBlock,Bool.or_eq_true,Bool.and_eq_true,decide_eq_true_eq] at h ⊢
  rcases h with h | h | h
  · exact .inl h
  · exact .inr (.inl h)
  · cases h
theorem t7w {E : Nat → Bool} {A B : Nat} {v v' : Value} {w w' : World} (hf : Fr [] v v' w w') : Sub (we (gE E A B v) w) (we (gE E A B v') w'):=by
  refine ⟨by rw [t0e,t0e];exact hf.size,fun a o z hz=>?_⟩
  obtain ⟨h1,h2⟩:=t0o hz
  have hl:=tf4 h2
  simp only [gE,Bool.or_eq_false_iff,decide_eq_false_iff_not] at h1
  have h3 : gE E A B v' a = false:=by
    simp only [gE,Bool.or_eq_false_iff,decide_eq_false_iff_not]
    refine ⟨h1.1,h1.2.1,fun e=>?_⟩
    rcases hf.own with e2 | e2
    · rw [e2] at e;exact h1.2.2 e
    · have:=e2 a e;omega
  rw [t4w (we_at h3)]
  exact (t4w (hf.block a hl (by simp) h1.2.2)).trans h2
theorem gE_in {E : Nat → Bool} {B : Nat} {v : Value} {w w' : World} (hb : Below w.heap.size w w') (hv : ∀ g,v.ownBlock = some g → w.heap.size ≤ g) : Below (we E w).heap.size (we E w) (we (gE E w.heap.size B v) w'):=by
  rw [t0e]
  refine ⟨hb.os,hb.tape,hb.output,by rw [t0e,t0e];exact hb.size,fun k hk=>?_⟩
  have e1 : gE E w.heap.size B v k = E k:=by
    simp only [gE]
    have h1 : decide (w.heap.size ≤ k) = false:=by simp;omega
    have h2 : decide (v.ownBlock = some k) = false:=by simp;intro e;have:=hv k e;omega
    rw [h1,h2];simp
  cases e : E k with
  | true=>rw [t2k (e1.trans e),t2k e,if_pos hk,if_pos (Nat.lt_of_lt_of_le hk hb.size)]
  | false=>rw [we_at (e1.trans e),we_at e];exact hb.block k hk
theorem tka {E : Nat → Bool} {v : Value} {w w' : World} (hb : Below w.heap.size (we E w) (we E w')) (hv : ∀ g,v.ownBlock = some g → w.heap.size ≤ g) : Below (we E w).heap.size (we E w) (we (gE E w.heap.size w.heap.size v) w'):=by
  have hs:=hb.size
  rw [t0e,t0e] at hs
  rw [t0e]
  refine ⟨hb.os,hb.tape,hb.output,by rw [t0e,t0e];exact hs,fun k hk=>?_⟩
  have e1 : gE E w.heap.size w.heap.size v k = E k:=by
    simp only [gE]
    have h1 : decide (w.heap.size ≤ k) = false:=by simp;omega
    have h2 : decide (v.ownBlock = some k) = false:=by simp;intro e;have:=hv k e;omega
    rw [h1,h2];simp
  have h3:=hb.block k hk
  cases e : E k with
  | true=>rw [t2k (e1.trans e),t2k e,if_pos hk,if_pos (Nat.lt_of_lt_of_le hk hs)]
  | false=>rw [we_at (e1.trans e),we_at e];rwa [we_at e,we_at e] at h3
theorem tfa {B : Nat} {w w' : World} (h : Below B w w') : LexK.Ext (fun x=>x < B) w w':=⟨h.size,fun i _ hk=>h.block i hk⟩
theorem tfb {E : Nat → Bool} {A B : Nat} {wq w5 w7 : World} {d dv : Nat} {o : Obj} {av v7 : Value} {L : List VV} {xs cs : List Value} {X : VV} (hc : Ch 7 (VS (we (gE E A B av) wq) d) L xs) (hs : Below wq.heap.size wq w5) (hx : VS (we (gE E A B av) w5) dv X cs) (hf : Fr [] av v7 (w5.alloc o) w7) : Ch 7 (VS (we (gE E A B v7) w7) (max d dv)) (L ++ [X]) (xs ++ cs):=by
  have hal : Below (we (gE E A B av) w5).heap.size (we (gE E A B av) w5) (we (gE E A B av) (w5.alloc o)):=by rw [t0e];exact t1e ((Below.refl _ _).alloc (Nat.le_refl _) _)
  have h1 : Ch 7 (VS (we (gE E A B v7) w7) (max d dv)) L xs:=hc.mono fun x cs _ h=>((((h.below (by rw [t0e];exact t1e hs)).below hal).sub (t7w hf)).up (Nat.le_max_left _ _))
  have h2 : VS (we (gE E A B v7) w7) (max d dv) X cs:=(((hx.below hal).sub (t7w hf)).up (Nat.le_max_right _ _))
  exact h1.append (Ch.single h2.len h2)
theorem tit {E : Nat → Bool} {A B : Nat} {w5 w7 : World} {d dv : Nat} {o : Obj} {av v7 : Value} {L : List EE} {xs cs : List Value} {X : EE} (hc : Ch 9 (ES (we (gE E A B av) w5) d) L xs) (hx : ES (we (gE E A B av) w5) dv X cs) (hl : cs.length = 9) (hf : Fr [] av v7 (w5.alloc o) w7) : Ch 9 (ES (we (gE E A B v7) w7) (max d dv)) (L ++ [X]) (xs ++ cs):=by
  have hal : Below (we (gE E A B av) w5).heap.size (we (gE E A B av) w5) (we (gE E A B av) (w5.alloc o)):=by rw [t0e];exact t1e ((Below.refl _ _).alloc (Nat.le_refl _) _)
  have h1 : Ch 9 (ES (we (gE E A B v7) w7) (max d dv)) L xs:=hc.mono fun x cs _ h=>(((h.below hal).sub (t7w hf)).up (Nat.le_max_left _ _))
  have h2 : ES (we (gE E A B v7) w7) (max d dv) X cs:=(((hx.below hal).sub (t7w hf)).up (Nat.le_max_right _ _))
  exact h1.append (Ch.single hl h2)
end Go.Proofs.YtjgldaaofdpcgaaGreat
