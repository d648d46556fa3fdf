/- Walks and plain facts for the laws of membership, for all values and types that the heap holds (texts Q6 Y5 A5). -/
import Derived.Test.YtjgldaaofdpcgaaGreatW03
import Derived.Test.YtjgldaaofdpcgaaGreatW11
import Derived.Test.YtjgldaaofdpcgaaGreatW27
import Derived.Test.YtjgldaaofdpcgaaGreatW31
import Derived.Test.YtjgldaaofdpcgaaGreatW32
import Derived.Test.YtjgldaaofdpcgaaGreatW33
import Derived.Test.YtjgldaaofdpcgaaGreatW35
set_option linter.unusedVariables false
set_option linter.unusedSimpArgs false
namespace Go.Proofs.YtjgldaaofdpcgaaGreat
open Go.RowKit Go.Ident
set_option maxRecDepth 100000
theorem tjc (T : Ty) (hw : WfT T) : ∀ d (V : VV),V.ht ≤ d → V.valid = true → ∀ k,T.has k = true → HasR T V k:=by
  intro d
  induction d with
  | zero=>intro V h;have:=t4u V;omega
  | succ d ih =>
    intro V hd hv
    obtain ⟨rk,hr⟩:=hw.ctr
    have hsub : ∀ x ∈ V.kids,∀ k,T.has k = true → HasR T x k:=fun x hx k hk=>ih x (by have:=t3z hx;omega) (tc2 hv hx) k hk
    have hent : ∀ e ∈ V.ents,(∀ x ∈ e.args,∀ k,T.has k = true → HasR T x k) ∧ (e.fails = false → ∀ k,T.has k = true → HasR T e.res k):=fun e he=>by
      have h1:=t4t he
      obtain ⟨h2,h3⟩:=tc3 hv he
      exact ⟨fun x hx k hk=>ih x (by have:=t4a hx;omega) (h2 x hx) k hk,fun hf k hk=>ih e.res (by have:=t4b e;omega) (h3 hf) k hk⟩
    have key : ∀ m i,i < T.nodes.length → rk i < m → HasR T V (i : Nat):=by
      intro m
      induction m with
      | zero=>intro i _ h;omega
      | succ m ihm =>
        intro i hi hm
        have hN:=hw.node hi
        have hK:=hN.kind
        obtain ⟨k1,k2⟩:=tb5 hK
        have hsame : (T.node (i : Nat)).bool = true → ∀ x ∈ (T.node (i : Nat)).kids,HasR T V x:=fun hb x hx=>by
          obtain ⟨j,rfl,hj⟩:=t3t (hN.kids x hx)
          have:=hr i hi hb _ hx
          simp only [Int.toNat_natCast] at this
          exact ihm j hj (by omega)
        generalize hn : T.node (i : Nat) = n at *
        have e1 : n.kind = 10 ∨ n.kind = 12 → n.kids.length ≤ 1000:=fun h=>by unfold kindN at hK;rcases h with h | h <;> (simp [h] at hK;omega)
        have e2 : n.kind = 14 → 1 ≤ n.kids.length ∧ n.kids.length ≤ 1000:=fun h=>by unfold kindN at hK;simp [h] at hK;omega
        have e3 : n.kind = 18 → 0 < n.kids.length:=fun h=>by unfold kindN at hK;simp [h] at hK;omega
        refine ti8 T hw V i hi n hn.symm ?_
        unfold MemQ
        rcases (show (n.kind = 1 ∨ n.kind = 2) ∨ n.kind = 3 ∨ (n.kind = 4 ∨ n.kind = 6) ∨ (n.kind = 5 ∨ n.kind = 7 ∨ n.kind = 8 ∨ n.kind = 9 ∨ n.kind = 11 ∨ n.kind = 15) ∨ (n.kind = 10 ∨ n.kind = 12) ∨ n.kind = 13 ∨ n.kind = 14 ∨ (n.kind = 16 ∨ n.kind = 17) ∨ n.kind = 18 ∨ n.kind = 19 by omega) with h | h | h | h | h | h | h | h | h | h
        · exact .inl h
        · exact .inr (.inl h)
        · exact .inr (.inr (.inl h))
        · exact .inr (.inr (.inr (.inl h)))
        · exact .inr (.inr (.inr (.inr (.inl ⟨h,e1 h,fun x hx k hk=>hsub x hx k (hN.kids k hk)⟩))))
        · exact .inr (.inr (.inr (.inr (.inr (.inl ⟨h,tc4 hv,tc5 hv,fun j hj hj2=>hsub _ (List.getElem_mem hj2) _ (hN.at h _)⟩)))))
        · exact .inr (.inr (.inr (.inr (.inr (.inr (.inl ⟨h,(e2 h).1,(e2 h).2,fun e he=>⟨fun x hx k hk=>(hent e he).1 x hx k (hN.kids k hk),fun hf k hk=>(hent e he).2 hf k (hN.kids k hk)⟩⟩))))))
        · exact .inr (.inr (.inr (.inr (.inr (.inr (.inr (.inl ⟨h,hsame (by rcases h with h | h <;> simp [TN.bool,h])⟩)))))))
        · refine .inr (.inr (.inr (.inr (.inr (.inr (.inr (.inr (.inl ⟨h,e3 h,hsame (by simp [TN.bool,h]) _ ?_⟩))))))))
          have h1:=e3 h
          rw [List.getD_eq_getElem?_getD,List.getElem?_eq_getElem h1]
          exact List.getElem_mem h1
        · exact .inr (.inr (.inr (.inr (.inr (.inr (.inr (.inr (.inr h))))))))
    intro k hk
    obtain ⟨j,rfl,hj⟩:=t3t hk
    exact key (rk j + 1) j hj (by omega)
theorem tjd {T : Ty} (hw : WfT T) {V : VV} (hv : V.valid = true) {k : Int} (hk : T.has k = true) : HasR T V k:=tjc T hw V.ht V (Nat.le_refl _) hv k hk
end Go.Proofs.YtjgldaaofdpcgaaGreat
namespace Go.Proofs.YtjgldaaofdpcgaaGreat
open Go.RowKit Go.Ident
set_option maxRecDepth 100000
theorem t9k (a : VV) (w : World) (u : Value) (hu : VW w u a) : Calls Tryz.prog 31 #[u] w (ER a.valid w):=tej tjy a w u hu
theorem TS.kids {w : World} {t : Value} {T : Ty} (h : TS w t T) : ∀ n ∈ T.nodes,n.kids.length ≤ 9223372036854775807:=by obtain ⟨p,c,e,h,h2⟩:=h;exact h2
theorem t9z (T : Ty) (w : World) (t : Value) (ht : TS w t T) (hs : SzT T) : Calls Tryz.prog 32 #[t] w (WR T w) :=
  ti5 T w t ht hs fun n hn w' cs ht' hN=>ten T n w' t cs ht' hN (ht'.kids n hn)
open Classical in
noncomputable def mof (T : Ty) (V : VV) (k : Int) : Bool:=V.valid && (decide (WfT T) && (T.has k && mem T V k))
open Classical in
theorem mof_nwf {T : Ty} {V : VV} {k : Int} (h : ¬ WfT T) : mof T V k = false:=by unfold mof;rw [decide_eq_false h];simp
open Classical in
theorem tdz {T : Ty} {V : VV} {k : Int} (hv : V.valid = true) (h : WfT T) : mof T V k = (T.has k && mem T V k):=by unfold mof;rw [hv,decide_eq_true h];simp
set_option maxHeartbeats 16000000 in
theorem t4j (T : Ty) (V : VV) (k : Int) (w : World) (v t : Value) (hv : VW w v V) (ht : TS w t T) (hn : V.nodes ≤ 1048576) (hs : SzT T) : Calls Tryz.prog 13 #[v,t,.int .i64 k] w (ER (mof T V k) w):=by
  have HV:=zH hv;have HT:=zH ht
  obtain ⟨d,v1,b1,v2,b2,v3,b3,v4,b4,rfl,-,-,-,-,-⟩:=hv.ex
  obtain ⟨pt,ct,rfl,-⟩:=ht
  clear hv
  go_enter Tryz.func13,Tryz.ntmps13
  go_upto_region 1 with fail
  obtain ⟨w2,e9,hA,hB,hb⟩:=t1f w (.cells #[.int .i64 V.kind,.int .i64 V.num,.string V.text,.slice v1 V.kids.length b1,.slice v2 V.keys.length b2,.slice v3 V.ents.length b3,.slice v4 V.labels.length b4] 28) (.cells #[.slice pt T.nodes.length ct,.int .i64 T.root] 31)
  rw [e9]
  obtain ⟨⟨f0,f1,f2,f3⟩,f4,f5,f6⟩:=t0f hA
  obtain ⟨t0,t1⟩:=t0k hB
  have Hb:=zH hb
  clear e9 hA hB
  have Hval:=zH (tdp V w2 _ (HV.out.below hb) hn)
  have Hwf:=zH (fun (w6 : World) (h : Below w2.heap.size w2 w6)=>tbu T w6 _ (HT.out.below (hb.step h)) hs)
  clear hb
  cases hval : V.valid with
  | false =>
    have Hr:=zH (show mof T V k = false by unfold mof;rw [hval];rfl)
    rw [hval] at Hval
    clear hval
    go_wp2_with (go_at_call 28;refine Hval.out.mono ?_;rintro e w6 ⟨rfl,hb6⟩;have Hb6:=zH (Hb.out.step hb6);clear hb6)
    go_ret
    rw [Hr.out]
    exact ⟨rfl,Hb6.out⟩
  | true =>
  have Hvv:=zH hval
  rw [hval] at Hval
  clear hval
  by_cases hw : WfT T
  rotate_left
  · have Hr:=zH (show mof T V k = false from mof_nwf hw)
    have Hw:=zH hw
    clear hw
    go_wp2_with (first
      | (go_at_call 28;refine Hval.out.mono ?_;rintro e w6 ⟨rfl,hb6⟩;have Hb6:=zH hb6;have t0':=t0b hb6 t0;have t1':=t0b hb6 t1;clear t0 t1;have t0:=t0';have t1:=t1';clear t0' t1';have g0:=t0b hb6 f0;have g1:=t0b hb6 f1;have g2:=t0b hb6 f2;have g3:=t0b hb6 f3;have g4:=t0b hb6 f4;have g5:=t0b hb6 f5;have g6:=t0b hb6 f6;clear f0 f1 f2 f3 f4 f5 f6;have f0:=g0;have f1:=g1;have f2:=g2;have f3:=g3;have f4:=g4;have f5:=g5;have f6:=g6;clear g0 g1 g2 g3 g4 g5 g6; clear hb6)
      | (go_at_call 29;refine (Hwf.out w6 Hb6.out).mono ?_;rintro e w7 ⟨c,rfl,hc,hb7⟩;have hc0 : (c != 0) = true:=(by simp;exact fun h=>Hw.out (hc.1 h));have Hb7:=zH (Hb.out.step (Hb6.out.step hb7));clear hb7 hc))
    go_ret
    rw [Hr.out]
    exact ⟨rfl,Hb7.out⟩
  have Hw:=zH hw
  have Hr:=zH (show mof T V k = (T.has k && mem T V k) from tdz Hvv.out hw)
  clear hw
  by_cases h0 : k < 0
  · have d0 : decide (k < 0) = true:=by simp [h0]
    have hk : T.has k = false:=by rw [Bool.eq_false_iff];intro g;have:=(has_iff.1 g).1;omega
    have Hr2:=zH (show mof T V k = false by rw [Hr.out,hk];rfl)
    clear h0 hk
    go_wp2_with (first
      | (go_at_call 28;refine Hval.out.mono ?_;rintro e w6 ⟨rfl,hb6⟩;have Hb6:=zH hb6;have t0':=t0b hb6 t0;have t1':=t0b hb6 t1;clear t0 t1;have t0:=t0';have t1:=t1';clear t0' t1';have g0:=t0b hb6 f0;have g1:=t0b hb6 f1;have g2:=t0b hb6 f2;have g3:=t0b hb6 f3;have g4:=t0b hb6 f4;have g5:=t0b hb6 f5;have g6:=t0b hb6 f6;clear f0 f1 f2 f3 f4 f5 f6;have f0:=g0;have f1:=g1;have f2:=g2;have f3:=g3;have f4:=g4;have f5:=g5;have f6:=g6;clear g0 g1 g2 g3 g4 g5 g6; clear hb6)
      | (go_at_call 29;refine (Hwf.out w6 Hb6.out).mono ?_;rintro e w7 ⟨c,rfl,hc,hb7⟩;obtain rfl:=hc.2 Hw.out;have Hb7:=zH (Hb.out.step (Hb6.out.step hb7));clear hb7 hc))
    go_ret
    rw [Hr2.out]
    exact ⟨rfl,Hb7.out⟩
  have d0 : decide (k < 0) = false:=by simp;omega
  by_cases h1 : k < (T.nodes.length : Int)
  rotate_left
  · have d1 : decide ((T.nodes.length : Int) ≤ k) = true:=by simp;omega
    have hk : T.has k = false:=by rw [Bool.eq_false_iff];intro g;have:=(has_iff.1 g).2;unfold Ty.len at this;omega
    have Hr2:=zH (show mof T V k = false by rw [Hr.out,hk];rfl)
    clear h0 h1 hk
    go_wp2_with (first
      | (go_at_call 28;refine Hval.out.mono ?_;rintro e w6 ⟨rfl,hb6⟩;have Hb6:=zH hb6;have t0':=t0b hb6 t0;have t1':=t0b hb6 t1;clear t0 t1;have t0:=t0';have t1:=t1';clear t0' t1';have g0:=t0b hb6 f0;have g1:=t0b hb6 f1;have g2:=t0b hb6 f2;have g3:=t0b hb6 f3;have g4:=t0b hb6 f4;have g5:=t0b hb6 f5;have g6:=t0b hb6 f6;clear f0 f1 f2 f3 f4 f5 f6;have f0:=g0;have f1:=g1;have f2:=g2;have f3:=g3;have f4:=g4;have f5:=g5;have f6:=g6;clear g0 g1 g2 g3 g4 g5 g6; clear hb6)
      | (go_at_call 29;refine (Hwf.out w6 Hb6.out).mono ?_;rintro e w7 ⟨c,rfl,hc,hb7⟩;obtain rfl:=hc.2 Hw.out;have Hb7:=zH (Hb.out.step (Hb6.out.step hb7));have t0':=t0b hb7 t0;have t1':=t0b hb7 t1;clear t0 t1;have t0:=t0';have t1:=t1';clear t0' t1';have g0:=t0b hb7 f0;have g1:=t0b hb7 f1;have g2:=t0b hb7 f2;have g3:=t0b hb7 f3;have g4:=t0b hb7 f4;have g5:=t0b hb7 f5;have g6:=t0b hb7 f6;clear f0 f1 f2 f3 f4 f5 f6;have f0:=g0;have f1:=g1;have f2:=g2;have f3:=g3;have f4:=g4;have f5:=g5;have f6:=g6;clear g0 g1 g2 g3 g4 g5 g6; clear hb7 hc))
    go_ret
    rw [Hr2.out]
    exact ⟨rfl,Hb7.out⟩
  have d1 : decide ((T.nodes.length : Int) ≤ k) = false:=by simp;omega
  have hk : T.has k = true:=has_iff.2 ⟨by omega,h1⟩
  have Hr2:=zH (show mof T V k = mem T V k by rw [Hr.out,hk];rfl)
  have Hhas:=zH (tiw Hw.out Hvv.out hk)
  clear h0 h1 hk
  go_wp2_with (first
    | (go_at_call 28;refine Hval.out.mono ?_;rintro e w6 ⟨rfl,hb6⟩;have Hb6:=zH hb6;have t0':=t0b hb6 t0;have t1':=t0b hb6 t1;clear t0 t1;have t0:=t0';have t1:=t1';clear t0' t1';have g0:=t0b hb6 f0;have g1:=t0b hb6 f1;have g2:=t0b hb6 f2;have g3:=t0b hb6 f3;have g4:=t0b hb6 f4;have g5:=t0b hb6 f5;have g6:=t0b hb6 f6;clear f0 f1 f2 f3 f4 f5 f6;have f0:=g0;have f1:=g1;have f2:=g2;have f3:=g3;have f4:=g4;have f5:=g5;have f6:=g6;clear g0 g1 g2 g3 g4 g5 g6; clear hb6)
    | (go_at_call 29;refine (Hwf.out w6 Hb6.out).mono ?_;rintro e w7 ⟨c,rfl,hc,hb7⟩;obtain rfl:=hc.2 Hw.out;have Hb7:=zH (Hb.out.step (Hb6.out.step hb7));have t0':=t0b hb7 t0;have t1':=t0b hb7 t1;clear t0 t1;have t0:=t0';have t1:=t1';clear t0' t1';have g0:=t0b hb7 f0;have g1:=t0b hb7 f1;have g2:=t0b hb7 f2;have g3:=t0b hb7 f3;have g4:=t0b hb7 f4;have g5:=t0b hb7 f5;have g6:=t0b hb7 f6;clear f0 f1 f2 f3 f4 f5 f6;have f0:=g0;have f1:=g1;have f2:=g2;have f3:=g3;have f4:=g4;have f5:=g5;have f6:=g6;clear g0 g1 g2 g3 g4 g5 g6; clear hb7 hc)
    | (go_at_call 30;refine (Hhas.out w7 _ _ (HV.out.below Hb7.out) (HT.out.below Hb7.out)).mono ?_;rintro e w8 ⟨rfl,hb8⟩;have Hb8:=zH (Hb7.out.step hb8);clear hb8))
  go_ret
  rw [Hr2.out]
  exact ⟨rfl,Hb8.out⟩
set_option maxHeartbeats 16000000 in
theorem t3w (T : Ty) (V : VV) (k : Int) (w : World) (v t : Value) (hv : VW w v V) (ht : TS w t T) (hs : SzT T) : Calls Tryz.prog 14 #[v,t,.int .i64 k] w (ER (mof T V k) w):=by
  have HV:=zH hv;have HT:=zH ht
  obtain ⟨d,v1,b1,v2,b2,v3,b3,v4,b4,rfl,-,-,-,-,-⟩:=hv.ex
  obtain ⟨pt,ct,rfl,-⟩:=ht
  clear hv
  go_enter Tryz.func14,Tryz.ntmps14
  go_upto_region 1 with fail
  obtain ⟨w2,e9,hA,hB,hb⟩:=t1f w (.cells #[.int .i64 V.kind,.int .i64 V.num,.string V.text,.slice v1 V.kids.length b1,.slice v2 V.keys.length b2,.slice v3 V.ents.length b3,.slice v4 V.labels.length b4] 28) (.cells #[.slice pt T.nodes.length ct,.int .i64 T.root] 31)
  rw [e9]
  obtain ⟨⟨f0,f1,f2,f3⟩,f4,f5,f6⟩:=t0f hA
  obtain ⟨t0,t1⟩:=t0k hB
  have Hb:=zH hb
  clear e9 hA hB
  have Hval:=zH (t9k V w2 _ (HV.out.below hb))
  have Hwf:=zH (fun (w6 : World) (h : Below w2.heap.size w2 w6)=>t9z T w6 _ (HT.out.below (hb.step h)) hs)
  have Hix:=zH (fun (w6 : World) (h : Below w.heap.size w w6)=>t3k T k w6 _ (HT.out.below h))
  clear hb
  cases hval : V.valid with
  | false =>
    have Hr:=zH (show mof T V k = false by unfold mof;rw [hval];rfl)
    rw [hval] at Hval
    clear hval
    go_wp2_with (go_at_call 31;refine Hval.out.mono ?_;rintro e w6 ⟨rfl,hb6⟩;have Hb6:=zH (Hb.out.step hb6);clear hb6)
    go_ret
    rw [Hr.out]
    exact ⟨rfl,Hb6.out⟩
  | true =>
  have Hvv:=zH hval
  rw [hval] at Hval
  clear hval
  by_cases hw : WfT T
  rotate_left
  · have Hr:=zH (show mof T V k = false from mof_nwf hw)
    have Hw:=zH hw
    clear hw
    go_wp2_with (first
      | (go_at_call 31;refine Hval.out.mono ?_;rintro e w6 ⟨rfl,hb6⟩;have Hb6:=zH hb6;have t0':=t0b hb6 t0;have t1':=t0b hb6 t1;clear t0 t1;have t0:=t0';have t1:=t1';clear t0' t1';have g0:=t0b hb6 f0;have g1:=t0b hb6 f1;have g2:=t0b hb6 f2;have g3:=t0b hb6 f3;have g4:=t0b hb6 f4;have g5:=t0b hb6 f5;have g6:=t0b hb6 f6;clear f0 f1 f2 f3 f4 f5 f6;have f0:=g0;have f1:=g1;have f2:=g2;have f3:=g3;have f4:=g4;have f5:=g5;have f6:=g6;clear g0 g1 g2 g3 g4 g5 g6; clear hb6)
      | (go_at_call 32;refine (Hwf.out w6 Hb6.out).mono ?_;rintro e w7 ⟨c,rfl,hc,hb7⟩;have hc0 : (c == 0) = false:=(by simp;exact fun h=>Hw.out (hc.1 h));have Hb7:=zH (Hb.out.step (Hb6.out.step hb7));clear hb7 hc))
    go_ret
    rw [Hr.out]
    exact ⟨rfl,Hb7.out⟩
  have Hw:=zH hw
  have Hr:=zH (show mof T V k = (T.has k && mem T V k) from tdz Hvv.out hw)
  clear hw
  cases hk : T.has k with
  | false =>
    have Hr2:=zH (show mof T V k = false by rw [Hr.out,hk];rfl)
    rw [hk] at Hix
    clear hk
    go_wp2_with (first
      | (go_at_call 31;refine Hval.out.mono ?_;rintro e w6 ⟨rfl,hb6⟩;have Hb6:=zH hb6;have t0':=t0b hb6 t0;have t1':=t0b hb6 t1;clear t0 t1;have t0:=t0';have t1:=t1';clear t0' t1';have g0:=t0b hb6 f0;have g1:=t0b hb6 f1;have g2:=t0b hb6 f2;have g3:=t0b hb6 f3;have g4:=t0b hb6 f4;have g5:=t0b hb6 f5;have g6:=t0b hb6 f6;clear f0 f1 f2 f3 f4 f5 f6;have f0:=g0;have f1:=g1;have f2:=g2;have f3:=g3;have f4:=g4;have f5:=g5;have f6:=g6;clear g0 g1 g2 g3 g4 g5 g6; clear hb6)
      | (go_at_call 32;refine (Hwf.out w6 Hb6.out).mono ?_;rintro e w7 ⟨c,rfl,hc,hb7⟩;obtain rfl:=hc.2 Hw.out;have Hb7:=zH (Hb.out.step (Hb6.out.step hb7));have t0':=t0b hb7 t0;have t1':=t0b hb7 t1;clear t0 t1;have t0:=t0';have t1:=t1';clear t0' t1';have g0:=t0b hb7 f0;have g1:=t0b hb7 f1;have g2:=t0b hb7 f2;have g3:=t0b hb7 f3;have g4:=t0b hb7 f4;have g5:=t0b hb7 f5;have g6:=t0b hb7 f6;clear f0 f1 f2 f3 f4 f5 f6;have f0:=g0;have f1:=g1;have f2:=g2;have f3:=g3;have f4:=g4;have f5:=g5;have f6:=g6;clear g0 g1 g2 g3 g4 g5 g6; clear hb7 hc)
      | (go_at_call 33;refine (Hix.out w7 Hb7.out).mono ?_;rintro e w8 ⟨rfl,hb8⟩;have Hb8:=zH (Hb7.out.step hb8);clear hb8))
    go_ret
    rw [Hr2.out]
    exact ⟨rfl,Hb8.out⟩
  | true =>
    have Hr2:=zH (show mof T V k = mem T V k by rw [Hr.out,hk];rfl)
    have Hhas:=zH (tjd Hw.out Hvv.out hk)
    rw [hk] at Hix
    clear hk
    go_wp2_with (first
      | (go_at_call 31;refine Hval.out.mono ?_;rintro e w6 ⟨rfl,hb6⟩;have Hb6:=zH hb6;have t0':=t0b hb6 t0;have t1':=t0b hb6 t1;clear t0 t1;have t0:=t0';have t1:=t1';clear t0' t1';have g0:=t0b hb6 f0;have g1:=t0b hb6 f1;have g2:=t0b hb6 f2;have g3:=t0b hb6 f3;have g4:=t0b hb6 f4;have g5:=t0b hb6 f5;have g6:=t0b hb6 f6;clear f0 f1 f2 f3 f4 f5 f6;have f0:=g0;have f1:=g1;have f2:=g2;have f3:=g3;have f4:=g4;have f5:=g5;have f6:=g6;clear g0 g1 g2 g3 g4 g5 g6; clear hb6)
      | (go_at_call 32;refine (Hwf.out w6 Hb6.out).mono ?_;rintro e w7 ⟨c,rfl,hc,hb7⟩;obtain rfl:=hc.2 Hw.out;have Hb7:=zH (Hb.out.step (Hb6.out.step hb7));have t0':=t0b hb7 t0;have t1':=t0b hb7 t1;clear t0 t1;have t0:=t0';have t1:=t1';clear t0' t1';have g0:=t0b hb7 f0;have g1:=t0b hb7 f1;have g2:=t0b hb7 f2;have g3:=t0b hb7 f3;have g4:=t0b hb7 f4;have g5:=t0b hb7 f5;have g6:=t0b hb7 f6;clear f0 f1 f2 f3 f4 f5 f6;have f0:=g0;have f1:=g1;have f2:=g2;have f3:=g3;have f4:=g4;have f5:=g5;have f6:=g6;clear g0 g1 g2 g3 g4 g5 g6; clear hb7 hc)
      | (go_at_call 33;refine (Hix.out w7 Hb7.out).mono ?_;rintro e w8 ⟨rfl,hb8⟩;have Hb8:=zH (Hb7.out.step hb8);have t0':=t0b hb8 t0;have t1':=t0b hb8 t1;clear t0 t1;have t0:=t0';have t1:=t1';clear t0' t1';have g0:=t0b hb8 f0;have g1:=t0b hb8 f1;have g2:=t0b hb8 f2;have g3:=t0b hb8 f3;have g4:=t0b hb8 f4;have g5:=t0b hb8 f5;have g6:=t0b hb8 f6;clear f0 f1 f2 f3 f4 f5 f6;have f0:=g0;have f1:=g1;have f2:=g2;have f3:=g3;have f4:=g4;have f5:=g5;have f6:=g6;clear g0 g1 g2 g3 g4 g5 g6; clear hb8)
      | (go_at_call 34;refine (Hhas.out w8 _ _ (HV.out.below Hb8.out) (HT.out.below Hb8.out)).mono ?_;rintro e w9 ⟨rfl,hb9⟩;have Hb9:=zH (Hb8.out.step hb9);clear hb9))
    go_ret
    rw [Hr2.out]
    exact ⟨rfl,Hb9.out⟩
set_option maxHeartbeats 16000000 in
theorem t6l (T : Ty) (V : VV) (w : World) (v t : Value) (hv : VW w v V) (ht : TS w t T) (hn : V.nodes ≤ 1048576) (hs : SzT T) : Calls Tryz.prog 15 #[v,t] w (ER (mof T V T.root) w):=by
  have HV:=zH hv;have HT:=zH ht
  obtain ⟨d,v1,b1,v2,b2,v3,b3,v4,b4,rfl,-,-,-,-,-⟩:=hv.ex
  obtain ⟨pt,ct,rfl,-⟩:=ht
  clear hv
  go_enter Tryz.func15,Tryz.ntmps15
  go_upto_region 1 with fail
  obtain ⟨w2,e9,hA,hB,hb⟩:=t1f w (.cells #[.int .i64 V.kind,.int .i64 V.num,.string V.text,.slice v1 V.kids.length b1,.slice v2 V.keys.length b2,.slice v3 V.ents.length b3,.slice v4 V.labels.length b4] 28) (.cells #[.slice pt T.nodes.length ct,.int .i64 T.root] 31)
  rw [e9]
  obtain ⟨⟨f0,f1,f2,f3⟩,f4,f5,f6⟩:=t0f hA
  obtain ⟨t0,t1⟩:=t0k hB
  have Hb:=zH hb
  clear e9 hA hB
  have Hc:=zH (t4j T V T.root w2 _ _ (HV.out.below hb) (HT.out.below hb) hn hs)
  clear hb
  go_wp2_with (go_at_call 13;refine Hc.out.mono ?_;rintro e w6 ⟨rfl,hb6⟩;have Hb6:=zH (Hb.out.step hb6);clear hb6)
  go_ret
  exact ⟨rfl,Hb6.out⟩
set_option maxHeartbeats 16000000 in
theorem t8t (T : Ty) (V : VV) (w : World) (v t : Value) (hv : VW w v V) (ht : TS w t T) (hs : SzT T) : Calls Tryz.prog 16 #[v,t] w (ER (mof T V T.root) w):=by
  have HV:=zH hv;have HT:=zH ht
  obtain ⟨d,v1,b1,v2,b2,v3,b3,v4,b4,rfl,-,-,-,-,-⟩:=hv.ex
  obtain ⟨pt,ct,rfl,-⟩:=ht
  clear hv
  go_enter Tryz.func16,Tryz.ntmps16
  go_upto_region 1 with fail
  obtain ⟨w2,e9,hA,hB,hb⟩:=t1f w (.cells #[.int .i64 V.kind,.int .i64 V.num,.string V.text,.slice v1 V.kids.length b1,.slice v2 V.keys.length b2,.slice v3 V.ents.length b3,.slice v4 V.labels.length b4] 28) (.cells #[.slice pt T.nodes.length ct,.int .i64 T.root] 31)
  rw [e9]
  obtain ⟨⟨f0,f1,f2,f3⟩,f4,f5,f6⟩:=t0f hA
  obtain ⟨t0,t1⟩:=t0k hB
  have Hb:=zH hb
  clear e9 hA hB
  have Hc:=zH (t3w T V T.root w2 _ _ (HV.out.below hb) (HT.out.below hb) hs)
  clear hb
  go_wp2_with (go_at_call 14;refine Hc.out.mono ?_;rintro e w6 ⟨rfl,hb6⟩;have Hb6:=zH (Hb.out.step hb6);clear hb6)
  go_ret
  exact ⟨rfl,Hb6.out⟩
end Go.Proofs.YtjgldaaofdpcgaaGreat
namespace Go.Proofs.YtjgldaaofdpcgaaGreat
open Go.RowKit Go.Ident
set_option maxRecDepth 100000
def TB (S : SD) (T : Ty) (tv : Value) (w : World) : Prop:=TS (wo S.b w) tv T
theorem TB.sr {S : SD} {T : Ty} {tv : Value} {w w' : World} (h : TB S T tv w) (k : SR S w w') : TB S T tv w':=h.below k.bel
theorem TB.ts {S : SD} {T : Ty} {tv : Value} {w : World} (h : TB S T tv w) : TS w tv T:=h.sub (tgv _ _)
def NB (T : Ty) (tv : Value) (N Lb : Nat) (S : SD) (k h : Int) : Prop:=∀ w,SRC S w → TB S T tv w → Calls Tryz.prog 40 #[.pointer (some ⟨S.b,0,none⟩),tv,.int .i64 k,.int .i64 h] w (GV (fun V=>V.nodes ≤ N ∧ V.labels.length ≤ Lb) S w)
def NV (T : Ty) (tv : Value) (N : Nat) (S : SD) (k h : Int) : Prop:=∀ w,SRC S w → TB S T tv w → Calls Tryz.prog 25 #[.pointer (some ⟨S.b,0,none⟩),tv,.int .i64 k,.int .i64 h] w (GV (fun V=>V.valid = true ∧ V.nodes ≤ N) S w)
set_option maxHeartbeats 16000000 in
theorem t9l (T : Ty) (tv : Value) (N Lb : Nat) (S : SD) (k h : Int) (hN : 1 ≤ N) (hn : NB T tv N Lb S k h) : NV T tv N S k h:=by
  intro w hS hT
  have HT:=zH hT;have HB:=zH hn
  obtain ⟨pT,cT,rfl,-,-⟩:=id hT
  have hltS:=hS.lt
  obtain ⟨w2,e9,hA,hC,hb⟩:=t1f w (.cells #[.slice pT T.nodes.length cT,.int .i64 T.root] 31) (.cells #[.int .i64 0,.int .i64 0,.string ⟨#[]⟩,.slice none 0 0,.slice none 0 0,.slice none 0 0,.slice none 0 0] 28)
  have hs2 : w2.heap.size = w.heap.size + 2:=by rw [← e9];simp
  have H2:=zH ((SR.refl hS).app hb)
  have HA:=zH hA;have HC:=zH hC
  have hlA:=t0a hA;have hlC:=t0a hC
  have Hb:=zH (show w.heap.size + 1 ≠ S.b by omega)
  have HEx:=zH (show lo (w.heap.size + 2) (w.heap.size + 1) = true by simp [lo])
  have HEl:=zH (show ∀ k,k < w.heap.size → lo (w.heap.size + 2) k = true from fun k hk=>by simp [lo];omega)
  have HT2:=zH (hT.sr H2.out)
  obtain ⟨g0,g1⟩:=t0k hA
  have Hs2:=zH hs2
  clear hA hC hb hS hT hn hs2
  go_enter Tryz.func25,Tryz.ntmps25
  go_upto_region 1 with fail
  try rw [e9]
  clear e9
  go_upto_region 2 with (go_at_call 40;refine (HB.out w2 H2.out.src HT2.out).mono ?_;rintro e w3 ⟨v3,X,rfl,hx,hq,hs⟩;obtain ⟨d,cs,rfl,hx⟩:=hx;obtain ⟨x1,x2,x3,x4,x5,x6,x7,x8,rfl⟩:=hx.seven;have HX:=zH (show VS (we (lo (w.heap.size + 2)) w3) d X _ by rw [Hs2.out] at hx;exact hx);have Hq:=zH hq.1;have H3:=zH (H2.out.trans hs);have C3:=zH ((hs.block hlC Hb.out).trans HC.out);have Hl3:=zH (show w.heap.size + 2 ≤ w3.heap.size by rw [← Hs2.out];exact hs.size);clear hx hq hs)
  have hV4:=heap_alloc_new w3 (.cells #[.int .i64 X.kind,.int .i64 X.num,.string X.text,.slice x1 X.kids.length x2,.slice x3 X.keys.length x4,.slice x5 X.ents.length x6,.slice x7 X.labels.length x8] 28)
  have hb4 : Below w3.heap.size w3 (w3.alloc (.cells #[.int .i64 X.kind,.int .i64 X.num,.string X.text,.slice x1 X.kids.length x2,.slice x3 X.keys.length x4,.slice x5 X.ents.length x6,.slice x7 X.labels.length x8] 28)):=(Below.refl _ _).alloc (Nat.le_refl _) _
  generalize w3.alloc (.cells #[.int .i64 X.kind,.int .i64 X.num,.string X.text,.slice x1 X.kids.length x2,.slice x3 X.keys.length x4,.slice x5 X.ents.length x6,.slice x7 X.labels.length x8] 28) = w4 at *
  have HX4:=zH (HX.out.below (by rw [t0j];exact t1l hb4))
  have H4:=zH (H3.out.step hb4);have C4:=zH ((hb4.block _ (t0a C3.out)).trans C3.out);have HV4:=zH hV4
  obtain ⟨⟨f0,f1,f2,f3⟩,f4,f5,f6⟩:=t0f hV4
  have hl4:=t0a hV4
  clear hb4 hV4
  have Hval:=zH (t9k X w4 _ (show VW w4 (.agg #[.int .i64 X.kind,.int .i64 X.num,.string X.text,.slice x1 X.kids.length x2,.slice x3 X.keys.length x4,.slice x5 X.ents.length x6,.slice x7 X.labels.length x8]) X from ⟨d,_,rfl,HX4.out.sub (t3q _ _)⟩))
  cases hv : X.valid with
  | true =>
    rw [hv] at Hval
    go_upto_region 4 with (go_at_call 31;refine Hval.out.mono ?_;rintro e w5 ⟨rfl,hb5⟩;have Hb5:=zH hb5;have H5:=zH (H4.out.step hb5);have C5:=zH ((hb5.block _ (t0a C4.out)).trans C4.out);have hV5:=(hb5.block _ hl4).trans HV4.out;clear f0 f1 f2 f3 f4 f5 f6;obtain ⟨⟨f0,f1,f2,f3⟩,f4,f5,f6⟩:=t0f hV5;clear hV5 hb5)
    go_wp2_with (with_reducible refine wpList_store_row rfl 28 (.tmp 8) (.tmp 20) rfl _ _ rfl rfl _ _ C5.out (by kernel_rfl) (by kernel_rfl) (by kernel_rfl) ?_)
    refine bodyPost_ret (results_cell_row rfl _ _ (w.heap.size + 1) 28 _ (0,0) _ rfl (setRow_heap _ _ _ _ _ _ C5.out) rfl rfl (by kernel_rfl)) rfl ?_
    exact ⟨_,X,rfl,t1v (show VW (we (lo (w.heap.size + 2)) w5) _ X from ⟨d,_,rfl,HX4.out.below (by rw [t0j];exact t1l Hb5.out)⟩) HEx.out HEl.out _,⟨hv,Hq.out⟩,H5.out.row (by omega) Hb.out _⟩
  | false =>
    rw [hv] at Hval
    go_wp2_with (first
      | (go_at_call 31;refine Hval.out.mono ?_;rintro e w5 ⟨rfl,hb5⟩;have H5:=zH (H4.out.step hb5);have C5:=zH ((hb5.block _ (t0a C4.out)).trans C4.out);clear hb5)
      | (go_at_call 41;refine (t2y S w5 H5.out.src).mono ?_;rintro e w6 ⟨v6,Y,rfl,hx,hq,hs⟩;obtain ⟨dv,cs,rfl,hx⟩:=hx;obtain ⟨y1,y2,y3,y4,y5,y6,y7,y8,rfl⟩:=hx.seven;have HY:=zH (hx.sub (t1m w6 (show w.heap.size + 2 ≤ w5.heap.size from t0a C5.out)));have Hqy:=zH hq;have H6:=zH (H5.out.trans hs);have C6:=zH ((hs.block (t0a C5.out) Hb.out).trans C5.out);clear hx hq hs)
      | (with_reducible refine wpList_store_row rfl 28 (.tmp 8) (.tmp 19) rfl _ _ rfl rfl _ _ C6.out (by kernel_rfl) (by kernel_rfl) (by kernel_rfl) ?_))
    refine bodyPost_ret (results_cell_row rfl _ _ (w.heap.size + 1) 28 _ (0,0) _ rfl (setRow_heap _ _ _ _ _ _ C6.out) rfl rfl (by kernel_rfl)) rfl ?_
    exact ⟨_,Y,rfl,t1v (show VW (we (lo (w.heap.size + 2)) w6) _ Y from ⟨dv,_,rfl,HY.out⟩) HEx.out HEl.out _,⟨Hqy.out.1,Nat.le_trans Hqy.out.2.1 hN⟩,H6.out.row (by omega) Hb.out _⟩
end Go.Proofs.YtjgldaaofdpcgaaGreat
