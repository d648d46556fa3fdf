/- Walks and plain facts for the laws of membership, for all values and types that the heap holds (texts J5 PLabels). -/
import Derived.Test.YtjgldaaofdpcgaaGreatRows
import Derived.WalkKit
import Derived.ProofKit
import Derived.OpenShut
import Derived.ShutString
import Derived.Below
import Derived.ChangeOld
import Derived.Test.YtjgldaaofdpcgaaGreatV03
import Derived.Test.YtjgldaaofdpcgaaGreatV04
import Derived.Test.YtjgldaaofdpcgaaGreatV43
import Derived.Test.YtjgldaaofdpcgaaGreatV45
set_option linter.unusedVariables false
set_option linter.unusedSimpArgs false
namespace Go.Proofs.YtjgldaaofdpcgaaGreat
open Go.RowKit Go.Ident
set_option maxRecDepth 100000
def set8 (xs : List Value) (k : Nat) (d0 d1 d2 d3 d4 d5 d6 d7 : Value) : List Value:=(((((((xs.set k d0).set (k + 1) d1).set (k + 2) d2).set (k + 3) d3).set (k + 4) d4).set (k + 5) d5).set (k + 6) d6).set (k + 7) d7
theorem tiu {xs : List Value} {k m : Nat} {d0 d1 d2 d3 d4 d5 d6 d7 : Value} (h : m < k ∨ k + 8 ≤ m) : (set8 xs k d0 d1 d2 d3 d4 d5 d6 d7)[m]? = xs[m]?:=by
  unfold set8
  rw [List.getElem?_set_ne (by omega),List.getElem?_set_ne (by omega),List.getElem?_set_ne (by omega),List.getElem?_set_ne (by omega),List.getElem?_set_ne (by omega),List.getElem?_set_ne (by omega),List.getElem?_set_ne (by omega),List.getElem?_set_ne (by omega)]
theorem tjq {xs : List Value} {k t : Nat} {d0 d1 d2 d3 d4 d5 d6 d7 : Value} (h : k + 8 ≤ xs.length) (ht : t < 8) : (set8 xs k d0 d1 d2 d3 d4 d5 d6 d7)[k + t]? = [d0,d1,d2,d3,d4,d5,d6,d7][t]?:=by
  unfold set8
  rcases (show t = 0 ∨ t = 1 ∨ t = 2 ∨ t = 3 ∨ t = 4 ∨ t = 5 ∨ t = 6 ∨ t = 7 by omega) with rfl | rfl | rfl | rfl | rfl | rfl | rfl | rfl <;>
    · simp [List.getElem?_set]
      try omega
theorem tdy (xs : List Value) (k : Nat) (d0 d1 d2 d3 d4 d5 d6 d7 : Value) : (set8 xs k d0 d1 d2 d3 d4 d5 d6 d7).length = xs.length:=by simp [set8]
theorem Ch.set8 {P : TN → List Value → Prop} {L M : List TN} {xs : List Value} {i : Nat} {d0 d1 d2 d3 d4 d5 d6 d7 : Value} (h : Ch 8 P L xs) (hi : i < L.length) (hM : M.length = L.length) (ho : ∀ (j : Nat) (h1 : j < M.length) (h2 : j < L.length),j ≠ i → M[j] = L[j]) (hx : P (M[i]'(by omega)) [d0,d1,d2,d3,d4,d5,d6,d7]) : Ch 8 P M (set8 xs (i * 8) d0 d1 d2 d3 d4 d5 d6 d7):=by
  have hl:=h.1
  refine ⟨by rw [tdy,hM];exact hl,fun j hj=>?_⟩
  have hj2 : j < L.length:=by omega
  by_cases e : j = i
  · subst e
    have : ((Go.Proofs.YtjgldaaofdpcgaaGreat.set8 xs (j * 8) d0 d1 d2 d3 d4 d5 d6 d7).drop (j * 8)).take 8 = [d0,d1,d2,d3,d4,d5,d6,d7]:=by
      apply List.ext_getElem?
      intro t
      by_cases ht : t < 8
      · rw [List.getElem?_take_of_lt ht,List.getElem?_drop]
        exact tjq (by omega) ht
      · rw [List.getElem?_eq_none (by simp;omega),List.getElem?_eq_none (by simp;omega)]
    rw [this];exact hx
  · have : ((Go.Proofs.YtjgldaaofdpcgaaGreat.set8 xs (i * 8) d0 d1 d2 d3 d4 d5 d6 d7).drop (j * 8)).take 8 = (xs.drop (j * 8)).take 8:=by
      apply List.ext_getElem?
      intro t
      by_cases ht : t < 8
      · rw [List.getElem?_take_of_lt ht,List.getElem?_drop,List.getElem?_take_of_lt ht,List.getElem?_drop]
        exact tiu (by omega)
      · rw [List.getElem?_eq_none (by simp;omega),List.getElem?_eq_none (by simp;omega)]
    rw [this,ho j hj hj2 e];exact h.2 j hj2
theorem tiv : ∀ (n : Nat) (V : VV),V.ht ≤ n → (ulV V).nodes ≤ V.nodes:=by
  intro n
  induction n with
  | zero=>intro V h;have:=t3m V;omega
  | succ n ih =>
    intro V h
    have hsum : ∀ l : List VV,(∀ x ∈ l,(ulV x).nodes ≤ x.nodes) → ((l.map ulV).map VV.nodes).sum ≤ (l.map VV.nodes).sum:=by
      intro l
      induction l with
      | nil=>intro _;simp
      | cons x r ih2=>intro h;have h1:=h x (by simp);have h2:=ih2 fun y hy=>h y (by simp [hy]);simp only [List.map_cons,List.sum_cons];omega
    have hE : ∀ e ∈ V.ents,(ulE e).nodes ≤ e.nodes:=fun e he=>by
      have hh:=t3u he
      have ha:=hsum e.args fun x hx=>ih x (by have:=t3k hx;omega)
      have hr:=ih e.res (by have:=t3l e;omega)
      rw [t2x,t2x]
      unfold EE.parts
      rw [t8n,t6w,t9t]
      cases e.fails
      · simp only [Bool.false_eq_true,if_false,List.map_append,List.sum_append,List.map_cons,List.map_nil,List.sum_cons,List.sum_nil];omega
      · simp only [if_true,List.append_nil];omega
    have hsE : ∀ l : List EE,(∀ e ∈ l,(ulE e).nodes ≤ e.nodes) → ((l.map ulE).map EE.nodes).sum ≤ (l.map EE.nodes).sum:=by
      intro l
      induction l with
      | nil=>intro _;simp
      | cons x r ih2=>intro h;have h1:=h x (by simp);have h2:=ih2 fun y hy=>h y (by simp [hy]);simp only [List.map_cons,List.sum_cons];omega
    have h1:=hsum V.kids fun x hx=>ih x (by have:=t3d hx;omega)
    have h2:=hsE V.ents hE
    have h3:=tc7 (V.ents.map ulE)
    rw [t5k,t5k V]
    unfold VV.parts
    rw [t6q,t8m]
    simp only [List.map_append,List.sum_append]
    rw [← t5c,← t5c]
    omega
theorem tkb {n : Nat} {T : Ty} (h : TD n T) (hn : n ≤ 1000) : SzT (lblT T):=by
  have hl:=h.len
  refine ⟨by unfold Ty.len lblT;simp;omega,fun x hx=>?_⟩
  obtain ⟨y,hy,rfl⟩:=List.mem_map.1 hx
  obtain ⟨j,hj,rfl⟩:=List.mem_iff_getElem.1 hy
  have:=h.at' j hj
  rcases t5g T.nodes[j] with e | ⟨e,-⟩
  · rw [e];simp
  · rw [e];exact ⟨Nat.le_trans this.kids (by decide),Nat.le_trans this.fields (by decide)⟩
theorem tiw {x : TN} (h : x.kind = 19) : lblN x = ⟨7,0,0,t0t,[],[],0,0⟩:=by unfold lblN;rw [if_pos h]
theorem t3s (l : List TN) {i : Nat} (h : i ≤ l.length) : ((l.take i).map lblN ++ l.drop i).length = l.length:=by simp;omega
theorem t6j (l : List TN) {i j : Nat} (h : i ≤ l.length) (hj : j < l.length) : ((l.take i).map lblN ++ l.drop i)[j]'(by rw [t3s l h];exact hj) = if j < i then lblN l[j] else l[j]:=by
  by_cases e : j < i
  · rw [List.getElem_append_left (by simp;omega),if_pos e];simp
  · rw [List.getElem_append_right (by simp;omega),if_neg e]
    simp only [List.getElem_drop,List.length_map,List.length_take]
    congr 1;omega
theorem tcd (l : List TN) {i : Nat} (h : i < l.length) : ∀ (j : Nat) (h1 : j < ((l.take (i + 1)).map lblN ++ l.drop (i + 1)).length) (h2 : j < ((l.take i).map lblN ++ l.drop i).length),j ≠ i → ((l.take (i + 1)).map lblN ++ l.drop (i + 1))[j] = ((l.take i).map lblN ++ l.drop i)[j]:=by
  intro j h1 h2 hne
  have hj : j < l.length:=by rw [t3s l (by omega)] at h2;exact h2
  rw [t6j l (by omega) hj,t6j l (by omega) hj]
  by_cases e : j < i
  · rw [if_pos (by omega),if_pos e]
  · rw [if_neg (by omega),if_neg e]
theorem thx (l : List TN) {i : Nat} (h : i < l.length) (hk : l[i].kind ≠ 19) : (l.take (i + 1)).map lblN ++ l.drop (i + 1) = (l.take i).map lblN ++ l.drop i:=by
  apply List.ext_getElem (by rw [t3s l (by omega),t3s l (by omega)])
  intro j h1 h2
  by_cases e : j = i
  · subst e
    rw [t6j l (by omega) h,t6j l (by omega) h,if_pos (by omega),if_neg (by omega)]
    unfold lblN;rw [if_neg hk]
  · exact tcd l h j h1 h2 e
set_option maxHeartbeats 64000000 in
theorem tcs (p q : Option Addr) (c d : Nat) (L M : List Int) (w : World) (hL : IS w (.slice p L.length c) L) (hM : IS w (.slice q M.length d) M) : Calls Tryz.prog 5 #[.slice p L.length c,.slice q M.length d] w (ER true w):=by
  have hA:=heap_alloc_new w (.cells #[.slice p L.length c,.slice q M.length d] 22)
  have hb1 : Below w.heap.size w (w.alloc (.cells #[.slice p L.length c,.slice q M.length d] 22)):=(Below.refl _ _).alloc (Nat.le_refl _) _
  have Hsh:=zH (ths w.heap.size p q L.length M.length c d _ hA)
  have HL:=zH (hL.below hb1);have HM:=zH (hM.below hb1);have Hb1:=zH hb1
  have HW1:=zH (show ∃ w1,w.alloc (.cells #[.slice p L.length c,.slice q M.length d] 22) = w1 from ⟨_,rfl⟩)
  clear hA hb1 hL hM
  cases hsh : (decide (L.length ≤ 80) && decide (M.length ≤ 80)) with
  | false =>
    have hsh2:=Hsh.out
    rw [hsh] at hsh2
    have Hsh:=zH hsh2
    clear hsh hsh2
    go_enter Tryz.func5,Tryz.ntmps5
    go_wp2_with (first
      | (go_at_call 8;refine Hsh.out.mono ?_;rintro e w2 ⟨rfl,hb2⟩;have Hb2:=zH (Hb1.out.step hb2);clear hb2)
      | (go_at_call 10;refine (tcc w2).mono ?_;rintro e w3 ⟨rfl,hb3⟩;have Hb3:=zH (Hb2.out.step hb3);clear hb3))
    go_ret
    exact ⟨rfl,Hb3.out⟩
  | true =>
    have hsh2:=Hsh.out
    rw [hsh] at hsh2
    have Hsh:=zH hsh2
    have hl80 : L.length ≤ 80 ∧ M.length ≤ 80:=by simpa using hsh
    obtain ⟨hl80,hm80⟩:=hl80
    clear hsh hsh2
    go_enter Tryz.func5,Tryz.ntmps5
    go_upto_region 4 with (first
      | (go_at_call 8;refine Hsh.out.mono ?_;rintro e w2 ⟨rfl,hb2⟩;have HL2:=zH (HL.out.below hb2);have HM2:=zH (HM.out.below hb2);have Hb2:=zH (Hb1.out.step hb2);clear hb2)
      | (go_at_call 11;refine (thv p q c d L M w2 HL2.out HM2.out (by omega) (by omega)).mono ?_;rintro e w3 ⟨tv,T,v,V,n,B,rfl,ht,ho,hd,h1n,h7n,hv,hvv,hnn,hB,hb3⟩;obtain ⟨pT,cT,xs,rfl,ho⟩:=ho;obtain ⟨dv,cs,rfl,hv⟩:=hv;obtain ⟨x1,x2,x3,x4,x5,x6,x7,x8,rfl⟩:=hv.seven;have HT:=zH ht;have HO:=zH (show TOB w2.heap.size B w3 (.agg #[.slice pT T.nodes.length cT,.int .i64 T.root]) T from ⟨pT,cT,xs,rfl,ho⟩);have HD:=zH hd;have HV:=zH (show VW (we (lo B) w3) (.agg #[.int .i64 V.kind,.int .i64 V.num,.string V.text,.slice x1 V.kids.length x2,.slice x3 V.keys.length x4,.slice x5 V.ents.length x6,.slice x7 V.labels.length x8]) V from ⟨dv,_,rfl,hv⟩);have Hvv:=zH hvv;have Hnn:=zH hnn;have HB:=zH hB;have Hb3:=zH hb3;have H1n:=zH h1n;have H7n:=zH h7n;clear ht ho hd hv hvv hnn hB hb3 h1n h7n))
    have hbx:=t1l w3 (.cells #[.slice pT T.nodes.length cT,.int .i64 T.root] 31) (.cells #[.int .i64 V.kind,.int .i64 V.num,.string V.text,.slice x1 V.kids.length x2,.slice x3 V.keys.length x4,.slice x5 V.ents.length x6,.slice x7 V.labels.length x8] 28)
    obtain ⟨w5,e5,hT5,hV5,hb5⟩:=hbx
    rw [e5]
    have HT5:=zH hT5;have HV5:=zH hV5;have Hb5:=zH hb5
    have HDl:=zH HD.out.len
    clear e5 hT5 hV5 hb5
    have hw35 : w3.heap.size ≤ w5.heap.size:=Hb5.out.size
    have hn1 : 1 ≤ T.nodes.length:=by have:=HDl.out;have:=H1n.out;omega
    have hn7 : T.nodes.length ≤ 7:=by have:=HDl.out;have:=H7n.out;omega
    have hO:=HO.out
    obtain ⟨pT',cT',xs0,e0,ho0,hB0,hc0⟩:=hO
    simp at e0
    obtain ⟨e01,e02⟩:=e0
    subst e01 e02
    obtain ⟨g,hg⟩:=teq ho0 hn1
    subst hg
    have hgB : g < B:=hB0 g rfl
    have hg2 : w2.heap.size ≤ g:=(ho0.lt g rfl).1
    have hg3 : g < w3.heap.size:=(ho0.lt g rfl).2
    have hb35 : Below w3.heap.size w3 w5:=Hb5.out
    have Ho0:=zH (t0d ho0 hb35 (Nat.le_refl _))
    have Hc0:=zH (show Ch 8 (NC (we (aE w2.heap.size (.slice (some ⟨g,0,none⟩) T.nodes.length cT) (.slice none 0 0)) w5)) ((T.nodes.take 0).map lblN ++ T.nodes.drop 0) xs0 from hc0.mono fun x cs _ h=>h.below (by rw [t0e];exact t1e hb35))
    have Hbl:=zH (show Below w3.heap.size (we (lo B) w3) (we (lo B) w5) from t1e hb35)
    have Hw5:=zH (show Below w.heap.size w w5 from (Hb2.out.step Hb3.out).step Hb5.out)
    have hws : w.heap.size ≤ w2.heap.size:=Hb2.out.size
    have HKD:=zH (HT.out.kids)
    clear ho0 hB0 hc0 hb35
    generalize hbt : w3.heap.size = bt at *
    have Hbt:=zH hbt
    generalize hbv : bt + 1 = bv at *
    have Hbv:=zH hbv
    have hgv : g < bv:=by omega
    clear hbt hbv
    go_wp2
    go_loopw [7] (fun iv wr=>∃ (i : Nat) (xs : List Value),iv = .int .i64 (i : Int) ∧ i ≤ T.nodes.length ∧ wr.ownsRow w2.heap.size 48 8 (.slice (some ⟨g,0,none⟩) T.nodes.length cT) T.nodes.length xs ∧ Ch 8 (NC (we (aE w2.heap.size (.slice (some ⟨g,0,none⟩) T.nodes.length cT) (.slice none 0 0)) wr)) ((T.nodes.take i).map lblN ++ T.nodes.drop i) xs ∧ Below bt (we (lo B) w3) (we (lo B) wr) ∧ wr.heap[bt]? = some (.cells #[.slice (some ⟨g,0,none⟩) T.nodes.length cT,.int .i64 T.root] 31) ∧ wr.heap[bv]? = some (.cells #[.int .i64 V.kind,.int .i64 V.num,.string V.text,.slice x1 V.kids.length x2,.slice x3 V.keys.length x4,.slice x5 V.ents.length x6,.slice x7 V.labels.length x8] 28) ∧ Below w.heap.size w wr ∧ w5.heap.size ≤ wr.heap.size) (fun iv _=>T.nodes.length - (intOf iv).toNat)
    case atStart=>exact ⟨0,xs0,rfl,by omega,Ho0.out,Hc0.out,Hbl.out,HT5.out,HV5.out,Hw5.out,Nat.le_refl _⟩
    case round =>
      obtain ⟨i,xs,rfl,hi,ho,hc,hbl,hT,hV,hbw,hsz⟩:=hrel
      have Ho:=zH ho;have Hc:=zH hc;have Hbl:=zH hbl;have HTr:=zH hT;have HVr:=zH hV;have Hbw:=zH hbw
      obtain ⟨t0,t1⟩:=t0w hT
      clear hbl hT hV hbw
      by_cases hlt : i < T.nodes.length
      · have d9 : decide (i < T.nodes.length) = true:=by simp [hlt]
        have hpl:=t3s T.nodes hi
        obtain ⟨pz,cz,ez,hrw⟩:=t1k (by rw [hpl];exact ho) hc (by rw [hpl];omega)
        rw [hpl] at ez
        injection ez with ez1 _ ez3
        subst ez1 ez3
        obtain ⟨a',o',cs,ea,-,-,hrg,hNC⟩:=hrw.at (i:=i) (by rw [hpl];exact hlt)
        injection ea with ea
        injection ea with ea1 ea2
        subst ea1 ea2
        have hpt:=t6j T.nodes hi hlt
        rw [if_neg (by omega)] at hpt
        rw [hpt] at hNC
        obtain ⟨p1,c1,p2,c2,rfl,-,-⟩:=hNC
        have q0:=hrg 0 _ rfl;have q1:=hrg 1 _ rfl;have q2:=hrg 2 _ rfl;have q3:=hrg 3 _ rfl;have q4:=hrg 4 _ rfl;have q5:=hrg 5 _ rfl;have q6:=hrg 6 _ rfl;have q7:=hrg 7 _ rfl
        simp only [Nat.zero_add,Nat.add_zero] at q0 q1 q2 q3 q4 q5 q6 q7
        have Hlt:=zH hlt
        clear hpl hrw hrg hpt
        by_cases h19 : T.nodes[i].kind = 19
        rotate_left
        · have d19 : (T.nodes[i].kind == 19) = false:=by simp [h19]
          have Hs:=zH (thx T.nodes hlt h19)
          have Hc2:=zH (show Ch 8 (NC (we (aE w2.heap.size (.slice (some ⟨g,0,none⟩) T.nodes.length cT) (.slice none 0 0)) wr)) ((T.nodes.take (i + 1)).map lblN ++ T.nodes.drop (i + 1)) xs by rw [Hs.out];exact Hc.out)
          clear h19
          generalize T.nodes[i] = x at *
          go_wp2
          exact ⟨⟨i + 1,xs,by first | rfl | go_num,by omega,Ho.out,Hc2.out,Hbl.out,HTr.out,HVr.out,Hbw.out,hsz⟩,by simp [intOf];omega⟩
        · have d19 : (T.nodes[i].kind == 19) = true:=by simp [h19]
          have Hsucc:=zH (tcd T.nodes hlt)
          have hNn : ((T.nodes.take (i + 1)).map lblN ++ T.nodes.drop (i + 1))[i]'(by rw [t3s T.nodes (by omega)];exact hlt) = ⟨7,0,0,t0t,[],[],0,0⟩:=by
            rw [t6j T.nodes (by omega) hlt,if_pos (by omega)];exact tiw h19
          have HNn:=zH hNn
          obtain ⟨g',cap,cur,ec,hgb,hcur,hncap,hcm,hcs,htake⟩:=ho.2.resolve_left (fun h=>by cases h.1)
          injection ec with ec1 _ ec3
          injection ec1 with ec1
          injection ec1 with ec1 _
          subst ec1 ec3
          have hxl : xs.length = T.nodes.length * 8:=ho.1
          have Hcur:=zH hcur;have Htake:=zH htake;have Hcs:=zH hcs
          have hfz : ∀ t,wr.frozen? ⟨g,t,none⟩ = false:=fun t=>by simp [World.frozen?,hcur]
          clear h19 hNn hcur htake hcs
          generalize T.nodes[i] = x at *
          go_wp2
          have HU:=zH ((Upd.set (i:=i * 8 + 7) (v:=.int .i64 0) (Upd.set (i:=i * 8 + 6) (v:=.int .i64 0) (Upd.set (i:=i * 8 + 5) (v:=.slice none 0 0) (Upd.set (i:=i * 8 + 4) (v:=.slice none 0 0) (Upd.set (i:=i * 8 + 3) (v:=.string ⟨#[]⟩) (Upd.set (i:=i * 8 + 2) (v:=.int .i64 0) (Upd.set (i:=i * 8 + 1) (v:=.int .i64 0) (Upd.set (i:=i * 8) (v:=.int .i64 7) (Upd.refl Hcur.out))))))))))
          have hAg : (aE w2.heap.size (.slice (some ⟨g,0,none⟩) T.nodes.length cT) (.slice none 0 0)) g = true:=by simp [aE,Value.ownBlock]
          have hlB : lo B g = true:=by simp [lo,hgB]
          generalize ((((((((wr.setCell ⟨g,i * 8,none⟩ (.int .i64 7)).setCell ⟨g,i * 8 + 1,none⟩ (.int .i64 0)).setCell ⟨g,i * 8 + 2,none⟩ (.int .i64 0)).setCell ⟨g,i * 8 + 3,none⟩ (.string ⟨#[]⟩)).setCell ⟨g,i * 8 + 4,none⟩ (.slice none 0 0)).setCell ⟨g,i * 8 + 5,none⟩ (.slice none 0 0)).setCell ⟨g,i * 8 + 6,none⟩ (.int .i64 0)).setCell ⟨g,i * 8 + 7,none⟩ (.int .i64 0)) = W at *
          have hown : W.ownsRow w2.heap.size 48 8 (.slice (some ⟨g,0,none⟩) T.nodes.length cT) T.nodes.length (set8 xs (i * 8) (.int .i64 7) (.int .i64 0) (.int .i64 0) (.string ⟨#[]⟩) (.slice none 0 0) (.slice none 0 0) (.int .i64 0) (.int .i64 0)):=by
            refine ⟨by rw [tdy];exact hxl,.inr ⟨g,cT,_,rfl,hgb,HU.out.blk,hncap,hcm,?_,?_⟩⟩
            · simp only [Array.size_setIfInBounds];exact Hcs.out
            · simp only [Array.toList_setIfInBounds,List.take_set,Htake.out];rfl
          have hch:=(Hc.out.mono fun x cs _ h=>h.below (by rw [t0e];exact t1j (B:=wr.heap.size) HU.out hAg)).set8 (M:=(T.nodes.take (i + 1)).map lblN ++ T.nodes.drop (i + 1)) (i:=i) (by rw [t3s T.nodes hi];exact Hlt.out) (by rw [t3s T.nodes hi,t3s T.nodes (by omega)]) Hsucc.out (by rw [HNn.out];exact nc0 _ 7 0 0 ⟨#[]⟩)
          exact ⟨⟨i + 1,_,by first | rfl | go_num,by omega,hown,hch,Hbl.out.trans (t1j HU.out hlB),(HU.out.other _ (by omega)).trans HTr.out,(HU.out.other _ (by omega)).trans HVr.out,Hbw.out.trans (HU.out.below (by omega)),by rw [HU.out.size];exact hsz⟩,by simp [intOf];omega⟩
      · obtain rfl : i = T.nodes.length:=by omega
        have d9 : decide (T.nodes.length < T.nodes.length) = false:=by simp
        have hnl : (T.nodes.take T.nodes.length).map lblN ++ T.nodes.drop T.nodes.length = (lblT T).nodes:=by simp [lblT]
        have hll : (lblT T).nodes.length = T.nodes.length:=by simp [lblT]
        have hts : TS wr (.agg #[.slice (some ⟨g,0,none⟩) T.nodes.length cT,.int .i64 T.root]) (lblT T):=by
          rw [hnl] at hc
          obtain ⟨pz,cz,ez,hrw⟩:=t1k (by rw [hll];exact ho) (hc.mono fun x cs _ h=>h.sub (t3e _ _)) (by rw [hll];omega)
          rw [hll] at ez
          injection ez with ez1 _ ez3
          subst ez1 ez3
          refine ⟨_,_,by rw [hll];rfl,hrw,fun n hn=>?_⟩
          obtain ⟨y,hy,rfl⟩:=List.mem_map.1 hn
          rcases t5g y with e | ⟨e,-⟩
          · rw [e];simp
          · rw [e];exact HKD.out y hy
        have HTS:=zH hts
        have HVW:=zH ((HV.out.below (by rw [t0e,Hbt.out];exact Hbl.out)).sub (t3e _ _))
        have hsz2 : SzT (lblT T):=tkb HD.out (by have:=H7n.out;omega)
        have hlaw:=tjo HD.out H1n.out Hvv.out
        have hVn : V.nodes ≤ 200000:=Nat.le_trans Hnn.out (by decide)
        have hc1:=fun (w' : World) (hb : Below wr.heap.size wr w')=>t6f (lblT T) V w' _ _ (HVW.out.below hb) (HTS.out.below hb) (by omega) hsz2
        have hc2:=fun (w' : World) (hb : Below wr.heap.size wr w') (vu : Value) (hv : VW w' vu (ulV V))=>t6f (lblT T) (ulV V) w' vu _ hv (HTS.out.below hb) (by have:=tiv _ V (Nat.le_refl _);omega) hsz2
        rw [← hlaw] at hc2
        have Hc3:=zH (fun (w' : World) (hb : Below wr.heap.size wr w')=>tem (V:=V) ⟨.inl Hvv.out,hVn⟩ (fun _=>false) w' _ (fun _ _=>rfl) ((HVW.out.below hb).below (we_in fun _ _=>rfl)))
        generalize mof (lblT T) V (lblT T).root = m at *
        have Hc1:=zH hc1;have Hc2:=zH hc2
        clear hnl hll hts hsz2 hlaw hVn hc1 hc2 ho hc
        go_upto_region 9 with fail
        clear t0 t1
        have Y0t:=zH (show wr.drew.cell? ⟨bt,0,none⟩ = _ from (t0w HTr.out).1)
        have Lt:=zH (show bt < wr.drew.heap.size from t0b HTr.out)
        have Rt:=zH (show wr.drew.heap[bt]? = _ from HTr.out)
        have Y0v:=zH (show wr.drew.cell? ⟨bv,0,none⟩ = _ from (t0j HVr.out).1.1)
        have Lv:=zH (show bv < wr.drew.heap.size from t0b HVr.out)
        have Rv:=zH (show wr.drew.heap[bv]? = _ from HVr.out)
        have B0:=zH (show Below wr.heap.size wr wr.drew from (Below.refl _ _).drew)
        obtain ⟨zt0,zt1⟩:=t0w HTr.out
        obtain ⟨⟨zv0,zv1,zv2,zv3⟩,zv4,zv5,zv6⟩:=t0j HVr.out
        go_wp2_with (first
          | ((with_reducible refine Lex.t0z ?_);refine fE (by repeat first | exact LexK.t0v | refine LexK.t0p rfl ?_ | refine LexK.t0q (by decide +kernel) ?_ | refine LexK.t0c rfl Lt.out Y0t.out ?_ | refine LexK.t0c rfl Lv.out Y0v.out ?_) ?_)
          | ((with_reducible refine Lex.t0r ?_);refine LexK.t0i (fun x=>x < wr.drew.heap.size) (by kernel_rfl) (by decide +kernel) ?_)
          | (with_reducible first | refine qH ?_ | refine LexK.t0u ?_ | refine LexK.t0y ?_)
          | ((with_reducible refine Lex.t1c ?_);first | (with_reducible refine LexK.t0f Hext.out ?_) | (refine LexK.t0f (LexK.Ext.alloc _ _) ?_) | (refine LexK.t0f (LexK.Ext.refl _) ?_))
          | (go_at_call 15;((with_reducible refine (Hc1.out wr.drew B0.out).mono ?_);rintro e x0 ⟨rfl,q⟩;have Hext:=zH (LexK.Ext.of_below (Kp:=fun x=>x < wr.drew.heap.size) q (Nat.le_refl _));have B1:=zH (B0.out.step q);have q0 : Below wr.drew.heap.size wr.drew x0:=q;have Q0:=zH q0;clear zt0 zt1;obtain ⟨z0_t0,z0_t1⟩:=t0w ((q0.block _ Lt.out).trans Rt.out);clear zv0 zv1 zv2 zv3 zv4 zv5 zv6;obtain ⟨⟨z0_v0,z0_v1,z0_v2,z0_v3⟩,z0_v4,z0_v5,z0_v6⟩:=t0j ((q0.block _ Lv.out).trans Rv.out);clear q q0))
          | (go_at_call 17;((with_reducible refine (Hc3.out x0 B1.out).mono ?_);rintro e x1 ⟨vu,rfl,hvu,q⟩;have HVU:=zH (hvu.sub (t3e _ _));clear hvu;have Hext:=zH (LexK.Ext.of_below (Kp:=fun x=>x < wr.drew.heap.size) q (Nat.le_refl _));have B2:=zH (B1.out.step q);have q0 : Below wr.drew.heap.size wr.drew x1:=Q0.out.trans (q.mono Q0.out.size);have Q1:=zH q0;clear z0_t0 z0_t1;obtain ⟨z1_t0,z1_t1⟩:=t0w ((q0.block _ Lt.out).trans Rt.out);clear z0_v0 z0_v1 z0_v2 z0_v3 z0_v4 z0_v5 z0_v6;obtain ⟨⟨z1_v0,z1_v1,z1_v2,z1_v3⟩,z1_v4,z1_v5,z1_v6⟩:=t0j ((q0.block _ Lv.out).trans Rv.out);clear q q0))
          | (go_at_call 15;((with_reducible refine (Hc2.out x1 B2.out vu (HVU.out)).mono ?_);rintro e x2 ⟨rfl,q⟩;have Hext:=zH (LexK.Ext.of_below (Kp:=fun x=>x < wr.drew.heap.size) q (Nat.le_refl _));have B3:=zH (B2.out.step q);have q0 : Below wr.drew.heap.size wr.drew x2:=Q1.out.trans (q.mono Q1.out.size);have Q2:=zH q0;clear z1_t0 z1_t1;obtain ⟨z2_t0,z2_t1⟩:=t0w ((q0.block _ Lt.out).trans Rt.out);clear z1_v0 z1_v1 z1_v2 z1_v3 z1_v4 z1_v5 z1_v6;obtain ⟨⟨z2_v0,z2_v1,z2_v2,z2_v3⟩,z2_v4,z2_v5,z2_v6⟩:=t0j ((q0.block _ Lv.out).trans Rv.out);clear q q0))
          | (go_at_call 10;((with_reducible refine (tcc x2).mono ?_);rintro e x3 ⟨rfl,q⟩;have Hext:=zH (LexK.Ext.of_below (Kp:=fun x=>x < wr.drew.heap.size) q (Nat.le_refl _));have B4:=zH (B3.out.step q);have q0 : Below wr.drew.heap.size wr.drew x3:=Q2.out.trans (q.mono Q2.out.size);have Q3:=zH q0;clear z2_t0 z2_t1;obtain ⟨z3_t0,z3_t1⟩:=t0w ((q0.block _ Lt.out).trans Rt.out);clear z2_v0 z2_v1 z2_v2 z2_v3 z2_v4 z2_v5 z2_v6;obtain ⟨⟨z3_v0,z3_v1,z3_v2,z3_v3⟩,z3_v4,z3_v5,z3_v6⟩:=t0j ((q0.block _ Lv.out).trans Rv.out);clear q q0)))
        go_ret
        exact ⟨rfl,Hbw.out.trans (B4.out.mono (by have:=Hw5.out.size;omega))⟩
end Go.Proofs.YtjgldaaofdpcgaaGreat
namespace Go.Proofs.YtjgldaaofdpcgaaGreat.memberLabels
open Go.ChangeShapes Go.WideShapes Go.ChangeAt Go.RowKit
open Go.ChangeMaps (open_string shut_string)
set_option linter.unusedVariables false

theorem own : ownKnob Tryz.prog.godebug = none:=by kernel_rfl
theorem tfd : laidOutB Tryz.prog = true:=by kernel_rfl
set_option maxRecDepth 100000 in
theorem tix (H : Type) (enc : TypeId × Value → H) (W : World) (base : Nat) (args : Array Value) (ds gs : List (DataW H)) (before : List MemPlace)
    (hval0 : ∀ (j : Nat) t v,Tryz.f5.params[j]? = some t → args[j]? = some v → Value.okWide Tryz.prog W .any base t v)
    (hW : DataW.Whole enc Tryz.prog Tryz.f5.params.toList Rows.memberLabelsSpec.vars false W args.toList ds gs before) :
    Calls Tryz.prog 5 args W fun e W'=>∃ v,e = .returned v ∧ Rows.memberLabelsSpec.post enc Tryz.prog Tryz.f5 false true false false W args v W':=by
  have hval : ∀ (j : Nat) t v,Tryz.f5.params[j]? = some t → args[j]? = some v → Value.okWide Tryz.prog W .any base t v:=hval0
  have hW':=hW
  obtain ⟨p,q,hA0,hV,rfl,hfz,hnd⟩:=hW
  have hA : DataW.TrodAll enc Tryz.prog W 0 (fun _=>true) true Tryz.f5.params.toList args.toList ds p:=hA0
  rw [Tryz.params5] at hA hval
  obtain ⟨v0,vs0,d0,ds0,p0,q0,hargs,rfl,rfl,h0,r0⟩:=trodAll_cons hA
  obtain ⟨v1,vs1,d1,ds1,p1,q1,rfl,rfl,rfl,h1,r1⟩:=trodAll_cons r0
  obtain ⟨rfl,rfl,rfl⟩:=trodAll_nil r1
  obtain rfl : args = #[v0,v1]:=by cases args;simp_all
  obtain ⟨rfl,rfl⟩:=trodVars_none hV
  clear hA0 hval0
  have k0:=h0
  have lt0 : ∀ x ∈ p0,x.block < W.heap.size:=by obtain ⟨m,hm⟩:=k0;exact DataW.trod_lt m _ _ _ hm
  have k1:=h1
  have lt1 : ∀ x ∈ p1,x.block < W.heap.size:=by obtain ⟨m,hm⟩:=k1;exact DataW.trod_lt m _ _ _ hm
  obtain ⟨s0,len0,cap0,rfl⟩:=okWide_slice Tryz.underlying22 (hval 0 22 v0 rfl rfl)
  obtain ⟨fuel0,hf0⟩:=h0
  obtain ⟨s1,len1,cap1,rfl⟩:=okWide_slice Tryz.underlying22 (hval 1 22 v1 rfl rfl)
  obtain ⟨fuel1,hf1⟩:=h1
  obtain ⟨L0,hL0,hl0,hw0⟩:=ter hf0
  obtain ⟨L1,hL1,hl1,hw1⟩:=ter hf1
  obtain ⟨p0',c0',e0,-⟩:=id hL0
  obtain ⟨p1',c1',e1,-⟩:=id hL1
  injection e0 with e01 e02 e03
  injection e1 with e11 e12 e13
  subst e01 e02 e03 e11 e12 e13
  refine ((tcs _ _ _ _ L0 L1 W hL0 hL1 : Calls Tryz.prog 5 _ W _)).mono fun e W' ⟨he,bel⟩=>?_
  subst he
  exact ⟨_,rfl,_,_,_,[],_,[],hW',trodAll_mk1 (shut_bool Tryz.underlying4 _),(trodAll_cons_mk (Below.trod tfd (by kernel_rfl) (of_decide_eq_true (by kernel_rfl)) k0 bel lt0) (trodAll_cons_mk (Below.trod tfd (by kernel_rfl) (of_decide_eq_true (by kernel_rfl)) k1 bel lt1) trodAll_mk0)),rfl,bel.frame _,fun h=>by cases h⟩
set_option maxRecDepth 100000 in
theorem tkc (os : Os) (started : os.Started) (H : Type) (enc : TypeId × Value → H) :
    ReturnsInHanded {} Tryz.checked os 5 .any (Rows.memberLabelsSpec.pre6 enc Tryz.prog Tryz.f5 Rows.memberLabelsRow.domain false) (Rows.memberLabelsSpec.post enc Tryz.prog Tryz.f5 false true false false):=by
  refine returnsInHanded_of_change (C:=Tryz.checked) own started (by kernel_rfl) Tryz.func5
    (ChangeSpec.witness6 (enc:=enc) (C:=Tryz.checked) false ⟨#[],#[.slice none 0 0,.slice none 0 0],[]⟩ 8 (by kernel_rfl) (by kernel_rfl) (by kernel_rfl) (by kernel_rfl)) ?_
  intro W base args ds gs before hval hW _ _
  exact tix H enc W base args ds gs before hval hW
theorem memberLabels_holds : Rows.MemberLabelsSaid :=
  OpenClaim.holds_of_wide 5 Tryz.f5 rfl rfl rfl rfl rfl rfl rfl ⟨rfl,rfl,rfl,rfl,rfl⟩ rfl rfl rfl rfl rfl (by kernel_rfl) Tryz.func5 (by kernel_rfl)
    (of_decide_eq_true (by kernel_rfl)) (by unfold Func.isWrapper;first | (rw [if_pos (by decide +kernel)];kernel_rfl) | (rw [if_neg (by decide +kernel)];exact ⟨rfl,rfl⟩))
    (fun os started H enc _=>tkc os started H enc)
end Go.Proofs.YtjgldaaofdpcgaaGreat.memberLabels
