/- Walks and plain facts for the laws of membership, for all values and types that the heap holds (texts A4 X1 X2). -/
import Derived.Test.YtjgldaaofdpcgaaGreatW03
import Derived.Test.YtjgldaaofdpcgaaGreatW15
import Derived.Test.YtjgldaaofdpcgaaGreatW18
import Derived.Test.YtjgldaaofdpcgaaGreatW25
import Derived.Test.YtjgldaaofdpcgaaGreatW26
set_option linter.unusedVariables false
set_option linter.unusedSimpArgs false
namespace Go.Proofs.YtjgldaaofdpcgaaGreat
open Go.RowKit Go.Ident
set_option maxRecDepth 100000
theorem th3 : (Tryz.prog.info? 48).map (fun i=>(i.zero,i.size,i.bytes)) = some (some (.agg #[.int .i64 0,.int .i64 0,.int .i64 0,.string ⟨#[]⟩,.slice none 0 0,.slice none 0 0,.int .i64 0,.int .i64 0]),8,104):=by kernel_rfl
theorem NC.seven {w : World} {X : TN} {cs : List Value} (h : NC w X cs) : ∃ x1 x2 x3 x4,cs = [.int .i64 X.kind,.int .i64 X.lo,.int .i64 X.hi,.string X.text,.slice x1 X.kids.length x2,.slice x3 X.fields.length x4,.int .i64 X.rest0,.int .i64 X.rest1]:=by
  obtain ⟨p1,c1,p2,c2,rfl,-,-⟩:=h;exact ⟨p1,c1,p2,c2,rfl⟩
theorem tj5 {S : SD} {wq w5 w7 : World} {B : Nat} {o : Obj} {av v7 u : Value} {A : List TN} {xs cs : List Value} {X : TN} (hc : Ch 8 (NC (we (aE B av u) wq)) A xs) (hs : SR S wq w5) (hSb : S.b < B) (hx : NC (we (lo wq.heap.size) w5) X cs)
    (hold : Old (aE B av u) wq.heap.size) (hf : Fr [] av v7 (w5.alloc o) w7) (hl : cs.length = 8) : Ch 8 (NC (we (aE B v7 u) w7)) (A ++ [X]) (xs ++ cs):=by
  have hal : Below (we (aE B av u) w5).heap.size (we (aE B av u) w5) (we (aE B av u) (w5.alloc o)):=by rw [t0j];exact t1l ((Below.refl _ _).alloc (Nat.le_refl _) _)
  have h1 : Ch 8 (NC (we (aE B v7 u) w7)) A xs:=hc.mono fun x cs _ h=>((h.below (by rw [t0j];exact hs.we (aE_b hSb))).below hal).sub (t4g hf)
  have h2 : NC (we (aE B v7 u) w7) X cs:=((hx.sub (t4f w5 hold)).below hal).sub (t4g hf)
  exact h1.append (Ch.single hl h2)
theorem tju {E : Nat → Bool} {n bx : Nat} {w : World} {v : Value} {T : Ty} (h : TS (we E w) v T) (hx : E bx = true) (hl : ∀ k,k < n → E k = true) (cs : Array Value) : TS (we (lo n) (w.setRow bx cs)) v T :=
  (h.below (by rw [t0j];exact t4e hx cs)).sub (t2r _ fun k hk=>hl k (by simpa [lo] using hk))
structure TD (n : Nat) (T : Ty) : Prop where
  root : T.root = 0
  len : T.nodes.length = n
  at' : ∀ (j : Nat) (h : j < T.nodes.length),DN (j : Int) (n : Int) T.nodes[j]
def TO (B : Nat) (w' : World) (v : Value) (T : Ty) : Prop:=∃ p c xs,v = .agg #[.slice p T.nodes.length c,.int .i64 T.root] ∧ w'.ownsRow B 48 8 (.slice p T.nodes.length c) T.nodes.length xs ∧ Ch 8 (NC (we (aE B (.slice p T.nodes.length c) (.slice none 0 0)) w')) T.nodes xs
theorem tf6 {w : World} {B B' n size : Nat} {e : TypeId} {v : Value} {xs : List Value} (h : w.ownsRow B e size v n xs) (hB : B' ≤ B) : w.ownsRow B' e size v n xs :=
  ⟨h.1,h.2.imp id fun ⟨g,cap,cur,e1,hb,rest⟩=>⟨g,cap,cur,e1,Nat.le_trans hB hb,rest⟩⟩
def TR (n : Nat) (S : SD) (w : World) (e : Ending) (w' : World) : Prop:=∃ v T,e = .returned v ∧ TS (we (lo w.heap.size) w') v T ∧ TD n T ∧ SR S w w' ∧ TO w.heap.size w' v T
set_option maxHeartbeats 64000000 in
theorem thz (S : SD) (n : Nat) (w : World) (hS : SRC S w) (h1n : 1 ≤ n) (hn : n ≤ 1000) : Calls Tryz.prog 23 #[.pointer (some ⟨S.b,0,none⟩),.int .i64 (n : Int)] w (TR n S w):=by
  have hltS:=hS.lt
  have Hb:=zH (show w.heap.size ≠ S.b by omega)
  have Ha:=zH (SR.alloc hS (.cells #[.slice none 0 0,.int .i64 0] 31))
  have Hn:=zH (heap_alloc_new w (.cells #[.slice none 0 0,.int .i64 0] 31))
  clear hS
  go_enter Tryz.func23,Tryz.ntmps23
  go_upto_region 1 with fail
  generalize w.alloc (.cells #[.slice none 0 0,.int .i64 0] 31) = w1 at *
  go_upto_region 3 with fail
  rw [show max (n : Int) 1 = (n : Int) by omega]
  have hB4:=heap_alloc_new w1 (.cells #[.slice none 0 0,.int .i64 0] 31)
  have hb4 : Below w1.heap.size w1 (w1.alloc (.cells #[.slice none 0 0,.int .i64 0] 31)):=(Below.refl _ _).alloc (Nat.le_refl _) _
  generalize w1.alloc (.cells #[.slice none 0 0,.int .i64 0] 31) = w4 at *
  have HB4:=zH hB4;have H4:=zH (Ha.out.step hb4);have Z4:=zH ((hb4.block _ (t0a Hn.out)).trans Hn.out)
  have hbw:=(show w.heap.size < w1.heap.size from t0a Hn.out)
  clear hB4 hb4
  generalize w1.heap.size = bx at *
  go_wp2
  go_loopw [6] (fun iv wr=>∃ (i : Nat) (L : List TN) (xs : List Value) (tv : Value),iv = .int .i64 (i : Int) ∧ i ≤ n ∧ L.length = i ∧ wr.heap[bx]? = some (.cells #[tv,.int .i64 0] 31) ∧ wr.ownsRow (bx + 1) 48 8 tv L.length xs ∧ Ch 8 (NC (we (aE (bx + 1) tv (.slice none 0 0)) wr)) L xs ∧ (∀ (j : Nat) (h : j < L.length),DN (j : Int) (n : Int) L[j]) ∧ wr.heap[w.heap.size]? = some (.cells #[.slice none 0 0,.int .i64 0] 31) ∧ SR S w wr) (fun iv _=>((n : Int) - intOf iv).toNat)
  case atStart=>exact ⟨0,[],[],.slice none 0 0,rfl,by omega,rfl,HB4.out,World.ownsRow_nil _ _ _ _,Ch.nil,fun j h=>by simp at h,Z4.out,H4.out⟩
  case round =>
    obtain ⟨i,L,xs,tv,rfl,hi,hL,hBr,ho,hc,hN,hZr,hsr⟩:=hrel
    obtain ⟨pa,ca,rfl⟩:=t0r ho
    have HBr:=zH hBr;have Ho:=zH ho;have Hc:=zH hc;have HN:=zH hN;have HZr:=zH hZr;have Hsr:=zH hsr;have HL:=zH hL
    have hsz2 : bx + 1 ≤ wr.heap.size:=t0a hBr
    have Hxb:=zH (show bx ≠ S.b by omega)
    obtain ⟨g0,g1⟩:=t0k hBr
    clear hBr ho hc hN hZr hsr hL
    by_cases hin : i < n
    · have d9 : decide (i < n) = true:=by simp [hin]
      have YB:=zH (show wr.drew.cell? ⟨bx,0,none⟩ = _ from g0)
      have Hsd:=zH Hsr.out.src.drew
      have hlBr:=t0a HBr.out
      obtain ⟨wq,hwq⟩ : ∃ wq : World,wq = wr:=⟨_,rfl⟩
      subst hwq
      go_wp2_with (first
        | ((with_reducible refine Lex.t0w ?_);refine fE (by repeat first | exact LexK.t0t | refine LexK.t0o rfl ?_ | refine LexK.t0p (by decide +kernel) ?_ | refine LexK.t0c rfl (Eq.refl _) YB.out ?_) ?_)
        | ((with_reducible refine Lex.t0q ?_);refine LexK.t0h (fun x=>x = bx) (by kernel_rfl) (by decide +kernel) ?_)
        | (with_reducible first | refine qH ?_ | refine LexK.t0s ?_ | refine LexK.t0v ?_)
        | ((with_reducible refine Lex.t1b ?_);first | (refine LexK.t0e hex5.out ?_) | (refine LexK.t0e hex7.out ?_) | (refine LexK.t0e (LexK.Ext.alloc _ _) ?_) | (refine LexK.t0e (LexK.Ext.refl _) ?_))
        | (go_at_call 39;refine (thy S (i : Int) (n : Int) wq.drew Hsd.out (by omega) (by omega) (by omega)).mono ?_;rintro e w5 ⟨cs,X,rfl,hx,hq,hs⟩;obtain ⟨x1,x2,x3,x4,rfl⟩:=hx.seven;have HX:=zH hx;have Hq:=zH hq;have Hs5:=zH hs;have hex5:=zH (t5t hs Hxb.out hlBr);have Ho5:=zH (hs.owns (t1s Ho.out) (by omega));have H5:=zH (Hsr.out.drew.trans hs);have hw5 : bx + 1 ≤ w5.heap.size:=(Nat.le_trans hsz2 hs.size);clear hx hq hs)
        | (at_builtin;go_loud (refine t0n rfl (.tmp 16) (.tmp 21) 29 rfl 48 (by kernel_rfl) th3 rfl (by decide) (by decide) (bx + 1) _ w5.heap.size [.int .i64 X.kind,.int .i64 X.lo,.int .i64 X.hi,.string X.text,.slice x1 X.kids.length x2,.slice x3 X.fields.length x4,.int .i64 X.rest0,.int .i64 X.rest1] (heap_alloc_new w5 _) (Nat.le_trans hw5 (by simp)) rfl (by intro u hu;simp at hu;rcases hu with rfl | rfl | rfl | rfl | rfl | rfl | rfl | rfl <;> rfl) (.slice pa L.length ca) L.length xs rfl (t0d Ho5.out ((Below.refl _ _).alloc (Nat.le_refl _) _) (Nat.le_refl _)) (by have:=HL.out;omega) rfl ?_);intro v7 w7 ho7 hf7;have hb7:=(hf7.below (Nat.le_trans hw5 (by simp)) (by simp) fun g hg=>(Ho5.out.lt g hg).1);have hex7:=zH (show LexK.Ext (fun x=>x = bx) (w5.alloc (.cells #[.int .i64 X.kind,.int .i64 X.lo,.int .i64 X.hi,.string X.text,.slice x1 X.kids.length x2,.slice x3 X.fields.length x4,.int .i64 X.rest0,.int .i64 X.rest1] 48)) w7 from t7t hb7 (by omega));have Hb7:=zH (((Below.refl w5.heap.size w5).alloc (Nat.le_refl _) (.cells #[.int .i64 X.kind,.int .i64 X.lo,.int .i64 X.hi,.string X.text,.slice x1 X.kids.length x2,.slice x3 X.fields.length x4,.int .i64 X.rest0,.int .i64 X.rest1] 48)).mono hw5 |>.trans hb7);obtain ⟨p7,c7,rfl⟩:=t0r ho7;have Ho7:=zH ho7;have hB7:=(Hb7.out.block bx (by omega)).trans ((Hs5.out.block hlBr Hxb.out).trans HBr.out);have HB7:=zH hB7;have HU:=zH (Upd.set (i:=0) (v:=.slice p7 (L.length + 1) c7) (Upd.refl hB7));have hz0 : w7.cell? ⟨bx,0,none⟩ = some (.slice pa L.length ca):=(by simp [World.cell?,hB7]);have hz1 : w7.frozen? ⟨bx,0,none⟩ = false:=(by simp [World.frozen?,hB7]);have Hf7:=zH hf7;clear ho7 hf7 hb7 hB7))
      have hB8:=HU.out.blk
      have hcA:=tj5 Hc.out ((SR.refl Hsr.out.src).drew.trans Hs5.out) (by omega) HX.out (t3g Ho.out (World.ownsRow_nil wq 0 0 0) hsz2) Hf7.out rfl
      refine ⟨⟨i + 1,L ++ [X],xs ++ [.int .i64 X.kind,.int .i64 X.lo,.int .i64 X.hi,.string X.text,.slice x1 X.kids.length x2,.slice x3 X.fields.length x4,.int .i64 X.rest0,.int .i64 X.rest1],.slice p7 (L.length + 1) c7,by first | rfl | (congr 1),by omega,by rw [List.length_append,HL.out];rfl,by simpa using hB8,by rw [List.length_append];exact t1r Ho7.out HU.out (by omega),?_,fun j hj=>?_,?_,(H5.out.app (Hb7.out.mono (by omega))).app (HU.out.below (by omega))⟩,by simp [intOf];omega⟩
      · exact hcA.mono fun x cs _ h=>h.below (by rw [t0j];exact t1n HU.out (aE_b (by omega)))
      · by_cases e : j < L.length
        · rw [List.getElem_append_left e];exact HN.out j e
        · have : j = L.length:=by rw [List.length_append] at hj;have : [X].length = 1:=rfl;omega
          subst this
          rw [List.getElem_append_right (Nat.le_refl _)]
          simp only [Nat.sub_self,List.getElem_cons_zero]
          have:=HL.out
          rw [show L.length = i from this]
          exact Hq.out
      · exact (HU.out.other w.heap.size (by omega)).trans ((Hb7.out.block _ (by omega)).trans ((Hs5.out.block (by show w.heap.size < wq.heap.size;omega) Hb.out).trans HZr.out))
    · have d9 : decide (i < n) = false:=by simp;omega
      obtain rfl : i = n:=by omega
      go_wp2_with (with_reducible refine wpList_store_row rfl 31 (.tmp 4) (.tmp 24) rfl _ _ rfl rfl _ _ HZr.out (by kernel_rfl) (by kernel_rfl) (by kernel_rfl) ?_)
      refine bodyPost_ret (results_cell_row rfl _ _ w.heap.size 31 _ (0,0) _ rfl (setRow_heap _ _ _ _ _ _ HZr.out) rfl rfl (by kernel_rfl)) rfl ?_
      have HcE:=Hc.out.mono fun x cs _ h=>h.sub (aE_lo _ _ _ _)
      obtain ⟨pz,cz,ez,hrw⟩:=t1o (t1q Ho.out (t1g _)) HcE (by have:=HL.out;omega)
      injection ez with ez1 _ ez3
      subst ez1 ez3
      refine ⟨_,⟨L,0⟩,rfl,tju (T:=⟨L,0⟩) ⟨_,_,rfl,hrw,fun x hx=>by obtain ⟨j,hj,rfl⟩:=List.mem_iff_getElem.1 hx;exact Nat.le_trans (HN.out j hj).kids (by decide)⟩ (show lo (bx + 1) w.heap.size = true by simp [lo];omega) (fun k hk=>by simp [lo];omega) _,⟨rfl,HL.out,HN.out⟩,Hsr.out.row (Nat.le_refl _) Hb.out _,⟨_,_,xs,rfl,tf6 (t3l Ho.out fun g hg=>setRow_other _ _ _ _ (by have:=(Ho.out.lt g hg).1;omega)) (by omega),Hc.out.mono fun x cs _ h=>(h.below (by rw [t0j];exact t4e (aE_b (by omega)) _)).sub (t2r _ fun k hk=>?_)⟩⟩
      simp only [aE,Bool.or_eq_true,decide_eq_true_eq] at hk ⊢
      rcases hk with hk | hk
      · exact .inl (by omega)
      · exact .inr hk
end Go.Proofs.YtjgldaaofdpcgaaGreat
namespace Go.Proofs.YtjgldaaofdpcgaaGreat
open Go.RowKit
set_option maxRecDepth 100000
structure CX (w : World) (T : Ty) (bs ba bt bw : Nat) (f : Nat → Int) : Prop where
  s : w.heap[bs]? = some (.cells #[.slice (some ⟨ba,0,none⟩) T.len T.len] 22)
  a : MI w ba T.len f
  t : BT (wo ba w) bt T
  g : w.heap[bw]? = some (.cells #[.func (.func 90) #[] #[.pointer (some ⟨bs,0,none⟩),.pointer (some ⟨bt,0,none⟩),.pointer (some ⟨bw,0,none⟩)]] 71)
  ns : bs ≠ ba
  nw : bw ≠ ba
theorem CX.turn {w w' : World} {T : Ty} {bs ba bt bw : Nat} {f f' : Nat → Int} (h : CX w T bs ba bt bw f) (hb : Below w.heap.size (wo ba w) (wo ba w')) (ha : MI w' ba T.len f') : CX w' T bs ba bt bw f':=by
  have e : ∀ k,k < w.heap.size → k ≠ ba → w'.heap[k]? = w.heap[k]?:=fun k hk hn=>by
    have:=hb.block k hk
    rwa [wo_at hn,wo_at hn] at this
  exact ⟨(e _ (t0a h.s) h.ns).trans h.s,ha,h.t.below (by rw [t1e];exact hb),(e _ (t0a h.g) h.nw).trans h.g,h.ns,h.nw⟩
theorem CX.below {w w' : World} {T : Ty} {bs ba bt bw : Nat} {f : Nat → Int} (h : CX w T bs ba bt bw f) (hb : Below w.heap.size w w') : CX w' T bs ba bt bw f:=h.turn (t2n hb) (h.a.below hb)
theorem wo_ne {w : World} {b k : Nat} {vs : Array Value} {e : TypeId} {fr : Nat × Nat} (h : (wo b w).heap[k]? = some (.cells vs e fr)) (hv : 0 < vs.size) : k ≠ b ∧ w.heap[k]? = some (.cells vs e fr):=by
  have hn : k ≠ b:=by
    rintro rfl
    rw [tj1] at h
    by_cases g : k < w.heap.size
    · rw [if_pos g] at h
      injection h with h
      injection h with h1
      subst h1
      simp at hv
    · rw [if_neg g] at h;cases h
  exact ⟨hn,by rwa [wo_at hn] at h⟩
theorem CX.node {w : World} {T : Ty} {bs ba bt bw : Nat} {f : Nat → Int} (h : CX w T bs ba bt bw f) {i : Nat} (hi : i < T.len) :
    ∃ p c a o p1 c1,p = some ⟨a,o,none⟩ ∧ w.heap[bt]? = some (.cells #[.slice p T.nodes.length c,.int .i64 T.root] 31) ∧ w.cell? ⟨a,o + i * 8,none⟩ = some (.int .i64 (T.node (i : Nat)).kind) ∧
      w.cell? ⟨a,o + i * 8 + 4,none⟩ = some (.slice p1 (T.node (i : Nat)).kids.length c1) ∧ IS (wo ba w) (.slice p1 (T.node (i : Nat)).kids.length c1) (T.node (i : Nat)).kids ∧ (T.node (i : Nat)).kids.length ≤ 9223372036854775807:=by
  obtain ⟨s0,s1,h1,p,c,e,h2,h3⟩:=h.t
  obtain ⟨hn,h4⟩:=wo_ne h1 (by simp)
  injection e with e
  simp at e
  obtain ⟨rfl,rfl⟩:=e
  have hi' : i < T.nodes.length:=hi
  obtain ⟨a,o,cs,hp,-,-,hr,p1,c1,p2,c2,rfl,h5,-⟩:=h2.at hi'
  rw [T.node_at hi']
  exact ⟨p,c,a,o,p1,c1,hp,h4,by have:=hr 0 _ rfl;exact t0l this,by have:=hr 4 _ rfl;exact t0l this,h5,h3 _ (List.getElem_mem hi')⟩
def CWR (T : Ty) (bs ba bt bw : Nat) (f : Nat → Int) (O : List Nat) (i : Nat) (w : World) (e : Ending) (w' : World) : Prop :=
  ∃ (b : Bool) (f' : Nat → Int),e = .returned (.bool b) ∧ CX w' T bs ba bt bw f' ∧ Below w.heap.size (wo ba w) (wo ba w') ∧
    (b = true → DfI T f' O ∧ (∀ m,m < T.len → f m ≠ 0 → f' m = f m) ∧ ((T.node (i : Nat)).bool = true → f' i = 2)) ∧ (b = false → ¬ Ctr T)
set_option maxHeartbeats 16000000 in
theorem tcc (T : Ty) (hK : KidsT T) (bs ba bt bw : Nat) (f : Nat → Int) (O : List Nat) (i : Nat) (w : World) (hi : i < T.len) (hD : DfI T f O) (hO : ∀ o ∈ O,BW T o i) (hX : CX w T bs ba bt bw f)
    (IH : ∀ (f' : Nat → Int) (O' : List Nat) (i' : Nat) (w' : World),zeros T.len f' < zeros T.len f → i' < T.len → DfI T f' O' → (∀ o ∈ O',BW T o i') → CX w' T bs ba bt bw f' →
      Calls Tryz.prog 90 #[.int .i64 (i' : Nat),.pointer (some ⟨bs,0,none⟩),.pointer (some ⟨bt,0,none⟩),.pointer (some ⟨bw,0,none⟩)] w' (CWR T bs ba bt bw f' O' i' w')) :
    Calls Tryz.prog 90 #[.int .i64 (i : Nat),.pointer (some ⟨bs,0,none⟩),.pointer (some ⟨bt,0,none⟩),.pointer (some ⟨bw,0,none⟩)] w (CWR T bs ba bt bw f O i w):=by
  have HI:=zH IH;have HX:=zH hX;have HD:=zH hD;have HO:=zH hO;have HK:=zH hK;have Hi:=zH hi
  have s0 : w.cell? ⟨bs,0,none⟩ = some (.slice (some ⟨ba,0,none⟩) T.len T.len):=by simp [World.cell?,hX.s]
  have a0:=hX.a.cell hi
  clear IH hX hD hO hK
  by_cases h0 : f i = 0
  rotate_left
  · have d0 : (f i != 0) = true:=by simp [h0]
    rcases HD.out.range i hi with h | h | h
    · exact absurd h h0
    · have Hno:=zH (show ¬ Ctr T from (HO.out i (HD.out.opn i hi h)).cyc)
      rw [h] at a0 d0
      clear h h0 hi
      go_enter Tryz.func90,Tryz.ntmps90
      go_wp2
      go_ret
      exact ⟨_,f,rfl,HX.out,Below.refl _ _,fun h=>by simp at h,fun _=>Hno.out⟩
    · have Hy:=zH h
      rw [h] at a0 d0
      clear h h0 hi
      go_enter Tryz.func90,Tryz.ntmps90
      go_wp2
      go_ret
      exact ⟨_,f,rfl,HX.out,Below.refl _ _,fun _=>⟨HD.out,fun _ _ _=>rfl,fun _=>Hy.out⟩,fun h=>by simp at h⟩
  have H0:=zH h0
  have hlt : (i : Int) < (T.nodes.length : Int):=by have : i < T.nodes.length:=hi;omega
  obtain ⟨p,c,a,o,p1,c1,rfl,ht,z0,z4,hkids,hkl⟩:=HX.out.node hi
  obtain ⟨t0,t1⟩:=t0k ht
  have Hkids:=zH hkids
  have Hbo:=zH (tcu (T.node (i : Nat)).kind w)
  have Hbk:=zH (tc8 (T.node (i : Nat)))
  rw [h0] at a0
  clear h0 hkids
  cases hb : boolK (T.node (i : Nat)).kind with
  | false =>
    rw [hb] at Hbo Hbk
    clear hb
    generalize (T.node (i : Nat)).kind = kd at *
    go_enter Tryz.func90,Tryz.ntmps90
    go_wp2_with (go_at_call 91;refine Hbo.out.mono ?_;rintro e w1 ⟨rfl,hb1⟩;have HX1:=zH (HX.out.below hb1);have Hb1:=zH hb1;clear s0 a0 t0 t1 z0 z4 ht hb1;have s0 : w1.cell? ⟨bs,0,none⟩ = some (.slice (some ⟨ba,0,none⟩) T.len T.len):=(by simp [World.cell?,HX1.out.s]);have a0:=HX1.out.a.cell Hi.out;rw [H0.out] at a0)
    go_ret
    exact ⟨_,f,rfl,HX1.out,t2n Hb1.out,fun _=>⟨HD.out,fun _ _ _=>rfl,fun h=>by rw [Hbk.out] at h;cases h⟩,fun h=>by simp at h⟩
  | true =>
    rw [hb] at Hbo Hbk
    clear hb
    generalize (T.node (i : Nat)).kind = kd at *
    go_enter Tryz.func90,Tryz.ntmps90
    go_upto_region 3 with (go_at_call 91;refine Hbo.out.mono ?_;rintro e w1 ⟨rfl,hb1⟩;have HX1:=zH (HX.out.below hb1);have Hb1:=zH hb1;clear s0 a0 t0 t1 z0 z4 ht hb1;have s0 : w1.cell? ⟨bs,0,none⟩ = some (.slice (some ⟨ba,0,none⟩) T.len T.len):=(by simp [World.cell?,HX1.out.s]);have a0:=HX1.out.a.cell Hi.out;have a1:=HX1.out.a.free i)
    obtain ⟨hM,o2,hU⟩:=HX1.out.a.set Hi.out 1
    rw [H0.out] at a0
    go_upto_region 4 with fail
    generalize w1.setCell ⟨ba,i,none⟩ (.int .i64 1) = w2 at *
    have HX2:=zH (HX1.out.turn (t3d hU) hM)
    have Hb2:=zH (show Below w.heap.size (wo ba w) (wo ba w2) from (t2n Hb1.out).trans ((t3d hU).mono Hb1.out.size))
    have HD2:=zH (HD.out.push Hi.out H0.out)
    clear s0 a0 a1 hM hU
    obtain ⟨p',c',a',o',p1',c1',ep,ht2,-,z4,hkids2,-⟩:=HX2.out.node Hi.out
    obtain ⟨t0,t1⟩:=t0k ht2
    subst ep
    have Hkids2:=zH hkids2
    clear hkids2 ht2
    obtain ⟨wq,hwq⟩ : ∃ wq : World,wq = w2:=⟨_,rfl⟩
    subst hwq
    have HKi:=zH (fun x hx=>HK.out i Hi.out Hbk.out x hx)
    have Hone:=zH (fun (k : Nat) hk=>BW.one (T:=T) (k:=k) Hi.out Hbk.out hk)
    have Hstep:=zH (fun (q k : Nat) (hq : BW T q i) hk=>BW.step (k:=k) hq Hi.out Hbk.out hk)
    have Hpop:=zH (fun (f' : Nat → Int) (h : DfI T f' (i :: O)) (hn : i ∉ O) (hk : ∀ k : Nat,(k : Int) ∈ (T.node (i : Nat)).kids → (T.node (k : Nat)).bool = true → f' k = 2)=>h.pop hn hk)
    generalize (T.node (i : Nat)).kids = ks at *
    go_wp2
    go_loopw [38] (fun j wr=>∃ (k : Nat) (f' : Nat → Int),j = .int .i64 k ∧ k ≤ ks.length ∧ CX wr T bs ba bt bw f' ∧ Below wq.heap.size (wo ba wq) (wo ba wr) ∧ DfI T f' (i :: O) ∧ (∀ m,m < T.len → (if m = i then 1 else f m) ≠ 0 → f' m = if m = i then 1 else f m) ∧ (∀ j (h : j < ks.length),j < k → (T.node ks[j]).bool = true → f' ks[j].toNat = 2)) (fun j _=>ks.length - (intOf j).toNat)
    case atStart=>exact ⟨0,_,rfl,by omega,HX2.out,Below.refl _ _,HD2.out,fun _ _ _=>rfl,fun j _ h=>by omega⟩
    case round =>
      obtain ⟨k,f',rfl,hk,hx,hb,hd,hm,hall⟩:=hrel
      have HXr:=zH hx;have Hbr:=zH hb;have HDr:=zH hd;have Hmr:=zH hm;have Har:=zH hall
      clear hx hb hd hm hall t0 t1 z4
      by_cases hlt : k < ks.length
      · obtain ⟨-,ak,ok,rfl,-,zk⟩:=(Hkids2.out.below (by rw [t1e];exact Hbr.out)).at hlt
        have zk:=t0l zk
        have g0 : wr.cell? ⟨bw,0,none⟩ = some (.func (.func 90) #[] #[.pointer (some ⟨bs,0,none⟩),.pointer (some ⟨bt,0,none⟩),.pointer (some ⟨bw,0,none⟩)]):=by simp [World.cell?,HXr.out.g]
        obtain ⟨m,hm,hml⟩:=t3t (HKi.out _ (List.getElem_mem hlt))
        have hmem : ((m : Nat) : Int) ∈ ks:=by rw [← hm];exact List.getElem_mem hlt
        have Hm:=zH hm
        rw [hm] at zk
        have hfi : f' i = 1:=by have:=Hmr.out i Hi.out (by simp);simpa using this
        have hz : zeros T.len f' < zeros T.len f:=thq (fun j hj h=>by
          by_cases e : j = i
          · rw [e];exact H0.out
          · rcases Decidable.em (f j = 0) with g | g
            · exact g
            · have:=Hmr.out j hj (by simpa [e] using g)
              simp only [e,if_false] at this
              omega) Hi.out H0.out (by omega)
        have Hcall:=zH (HI.out f' (i :: O) m wr hz hml HDr.out (fun q hq=>by
          rcases List.mem_cons.1 hq with rfl | hq
          · exact Hone.out m hmem
          · exact Hstep.out q m (HO.out q hq) hmem) HXr.out)
        clear hm hz hfi
        go_wp2_with (go_at_call 90;refine Hcall.out.mono ?_;rintro e w6 ⟨b,f6,rfl,hx6,hb6,ht6,hf6⟩;have HX6:=zH hx6;have Hb6:=zH (show Below wq.heap.size (wo ba wq) (wo ba w6) from Hbr.out.trans (hb6.mono (by have:=Hbr.out.size;rwa [t1e,t1e] at this)));have Ht6:=zH ht6;have Hf6:=zH hf6;clear hx6 hb6 ht6 hf6;cases b)
        · go_ret
          exact ⟨_,f6,rfl,HX6.out,Hb2.out.trans (Hb6.out.mono (by have:=Hb2.out.size;rwa [t1e,t1e] at this)),fun h=>by simp at h,fun _=>Hf6.out (by trivial)⟩
        · obtain ⟨hd6,hm6,hk6⟩:=Ht6.out (by trivial)
          refine ⟨⟨k + 1,f6,by go_num,by omega,HX6.out,Hb6.out,hd6,fun q hq g=>?_,fun j h hjk hbj=>?_⟩,by simp [intOf];omega⟩
          · have e1:=Hmr.out q hq g
            rw [hm6 q hq (by rw [e1];exact g),e1]
          · rcases Nat.lt_succ_iff_lt_or_eq.1 hjk with g | rfl
            · have e1:=Har.out j h g hbj
              obtain ⟨q,hq,hql⟩:=t3t (HKi.out _ (List.getElem_mem h))
              rw [hq,Int.toNat_natCast] at e1 ⊢
              rw [hm6 q hql (by omega),e1]
            · rw [Hm.out] at hbj ⊢
              exact hk6 hbj
      · obtain rfl : k = ks.length:=by omega
        have s0 : wr.cell? ⟨bs,0,none⟩ = some (.slice (some ⟨ba,0,none⟩) T.len T.len):=by simp [World.cell?,HXr.out.s]
        have a0:=HXr.out.a.cell Hi.out
        have a1:=HXr.out.a.free i
        have hii : (i : Int) < (T.len : Int):=by have:=Hi.out;omega
        obtain ⟨hM,o2,hU⟩:=HXr.out.a.set Hi.out 2
        have HXe:=zH (HXr.out.turn (t3d hU) hM)
        have Hbe:=zH (show Below wq.heap.size (wo ba wq) (wo ba (wr.setCell ⟨ba,i,none⟩ (.int .i64 2))) from Hbr.out.trans ((t3d hU).mono (by have:=Hbr.out.size;rwa [t1e,t1e] at this)))
        clear hM hU
        go_wp2
        go_ret
        refine ⟨_,_,rfl,HXe.out,Hb2.out.trans (Hbe.out.mono (by have:=Hb2.out.size;rwa [t1e,t1e] at this)),fun _=>⟨Hpop.out f' HDr.out (fun h=>?_) (fun q hq hbq=>?_),fun m hm g=>?_,fun _=>by simp⟩,fun h=>by simp at h⟩
        · have:=(HD.out.all i h).2
          have:=H0.out
          omega
        · obtain ⟨j,hj,e⟩:=List.mem_iff_getElem.1 hq
          have:=Har.out j hj hj (by rw [e];exact hbq)
          rw [e,Int.toNat_natCast] at this
          exact this
        · have e : m ≠ i:=fun e=>g (by rw [e];exact H0.out)
          have:=Hmr.out m hm (by simpa [e] using g)
          simpa [e] using this
theorem ti0 (T : Ty) (hK : KidsT T) (bs ba bt bw : Nat) : ∀ (N : Nat) (f : Nat → Int) (O : List Nat) (i : Nat) (w : World),zeros T.len f ≤ N → i < T.len → DfI T f O → (∀ o ∈ O,BW T o i) → CX w T bs ba bt bw f →
    Calls Tryz.prog 90 #[.int .i64 (i : Nat),.pointer (some ⟨bs,0,none⟩),.pointer (some ⟨bt,0,none⟩),.pointer (some ⟨bw,0,none⟩)] w (CWR T bs ba bt bw f O i w):=by
  intro N
  induction N with
  | zero=>intro f O i w hz hi hD hO hX;exact tcc T hK bs ba bt bw f O i w hi hD hO hX fun f' O' i' w' h=>by omega
  | succ N ih=>intro f O i w hz hi hD hO hX;exact tcc T hK bs ba bt bw f O i w hi hD hO hX fun f' O' i' w' h=>ih f' O' i' w' (by omega)
end Go.Proofs.YtjgldaaofdpcgaaGreat
namespace Go.Proofs.YtjgldaaofdpcgaaGreat
open Go.RowKit
set_option maxRecDepth 100000
open Classical in
set_option maxHeartbeats 16000000 in
theorem tbd (T : Ty) (w : World) (t : Value) (ht : TS w t T) (hK : KidsT T) (hn : T.len ≤ 100000) : Calls Tryz.prog 54 #[t] w (ER (decide (Ctr T)) w):=by
  have HK:=zH hK
  have HT:=zH ht
  obtain ⟨pt,ct,rfl,-⟩:=ht
  obtain ⟨ib,hi,hz,hz1,hz2⟩:=info_parts t4h
  have Hi:=zH hi;have Hz:=zH hz;have Hz1:=zH hz1;have Hz2:=zH hz2
  have hmf : ∀ (fn : Fn) (first cap : Array Value) (w : World),(Instr.makeFunc fn first cap).run Tryz.prog w = .ok (.func fn first cap) w:=fun _ _ _ _=>rfl
  have hA1:=(Below.refl w.heap.size w).alloc (Nat.le_refl _) (.cells #[.slice pt T.nodes.length ct,.int .i64 T.root] 31)
  have hn1:=heap_alloc_new w (.cells #[.slice pt T.nodes.length ct,.int .i64 T.root] 31)
  have hs1 : (w.alloc (.cells #[.slice pt T.nodes.length ct,.int .i64 T.root] 31)).heap.size = w.heap.size + 1:=by simp
  clear hi hz hz1 hz2 hK
  go_enter Tryz.func54,Tryz.ntmps54
  go_upto_region 1 with fail
  generalize w.alloc (.cells #[.slice pt T.nodes.length ct,.int .i64 T.root] 31) = w1 at *
  obtain ⟨t0,t1⟩:=t0k hn1
  have HB1:=zH (show BT w1 w.heap.size T from ⟨_,_,hn1,HT.out.below hA1⟩)
  have hA2:=(Below.refl w1.heap.size w1).alloc (Nat.le_refl _) (.cells (madeCells #[.int .i64 0] T.nodes.length) 3)
  have T2:=MI.made w1 T.nodes.length
  have hs2 : (w1.alloc (.cells (madeCells #[.int .i64 0] T.nodes.length) 3)).heap.size = w1.heap.size + 1:=by simp
  have hlen : T.nodes.length ≤ 100000:=hn
  have Hs2:=zH hs2
  clear hs2
  go_upto_region 4 with (at_make;refine wpList_make_row w1 rfl (.tmp 8) (.tmp 8) 22 rfl 3 ib (.int .i64 0) (by kernel_rfl) Hi.out Hz.out Hz1.out rfl .i64 .i64 T.nodes.length rfl rfl (by rw [Hz2.out];omega) (by omega) ?_;generalize w1.alloc (.cells (madeCells #[.int .i64 0] T.nodes.length) 3) = w2 at *)
  have hs2:=Hs2.out
  rw [hs1] at T2 hs2
  have hX : CX ((w2.alloc (.cells #[.slice (some ⟨w.heap.size + 1,0,none⟩) T.nodes.length T.nodes.length] 22)).alloc (.cells #[.func (.func 90) #[] #[.pointer (some ⟨w2.heap.size,0,none⟩),.pointer (some ⟨w.heap.size,0,none⟩),.pointer (some ⟨w2.heap.size + 1,0,none⟩)]] 71)) T w2.heap.size (w.heap.size + 1) w.heap.size (w2.heap.size + 1) (fun _=>0) ∧
      Below w2.heap.size w2 ((w2.alloc (.cells #[.slice (some ⟨w.heap.size + 1,0,none⟩) T.nodes.length T.nodes.length] 22)).alloc (.cells #[.func (.func 90) #[] #[.pointer (some ⟨w2.heap.size,0,none⟩),.pointer (some ⟨w.heap.size,0,none⟩),.pointer (some ⟨w2.heap.size + 1,0,none⟩)]] 71)):=by
    have n3:=heap_alloc_new w2 (.cells #[.slice (some ⟨w.heap.size + 1,0,none⟩) T.nodes.length T.nodes.length] 22)
    have hb3:=(Below.refl w2.heap.size w2).alloc (Nat.le_refl _) (.cells #[.slice (some ⟨w.heap.size + 1,0,none⟩) T.nodes.length T.nodes.length] 22)
    have s3 : (w2.alloc (.cells #[.slice (some ⟨w.heap.size + 1,0,none⟩) T.nodes.length T.nodes.length] 22)).heap.size = w2.heap.size + 1:=by simp
    generalize w2.alloc (.cells #[.slice (some ⟨w.heap.size + 1,0,none⟩) T.nodes.length T.nodes.length] 22) = w3 at *
    have n4:=heap_alloc_new w3 (.cells #[.func (.func 90) #[] #[.pointer (some ⟨w2.heap.size,0,none⟩),.pointer (some ⟨w.heap.size,0,none⟩),.pointer (some ⟨w2.heap.size + 1,0,none⟩)]] 71)
    have hb4:=(Below.refl w3.heap.size w3).alloc (Nat.le_refl _) (.cells #[.func (.func 90) #[] #[.pointer (some ⟨w2.heap.size,0,none⟩),.pointer (some ⟨w.heap.size,0,none⟩),.pointer (some ⟨w2.heap.size + 1,0,none⟩)]] 71)
    rw [s3] at n4
    generalize w3.alloc (.cells #[.func (.func 90) #[] #[.pointer (some ⟨w2.heap.size,0,none⟩),.pointer (some ⟨w.heap.size,0,none⟩),.pointer (some ⟨w2.heap.size + 1,0,none⟩)]] 71) = w4 at *
    have hb24 : Below w2.heap.size w2 w4:=hb3.step hb4
    refine ⟨⟨(hb4.block _ (by omega)).trans n3,T2.below hb24,?_,n4,by omega,by omega⟩,hb24⟩
    exact HB1.out.below ((hA2.trans (hb24.mono (by omega))).trans (wo_in (by omega)))
  have HX:=zH hX.1;have Hb4:=zH hX.2
  have Hbx:=zH ((Hb4.out.block w.heap.size (by omega)).trans ((hA2.block _ (t0a hn1)).trans hn1))
  have Hs:=zH (show w.heap.size + 1 < w2.heap.size + 1 from by omega)
  have Hb2:=zH (hA1.trans (hA2.mono (by omega)))
  generalize (w2.alloc (.cells #[.slice (some ⟨w.heap.size + 1,0,none⟩) T.nodes.length T.nodes.length] 22)).alloc (.cells #[.func (.func 90) #[] #[.pointer (some ⟨w2.heap.size,0,none⟩),.pointer (some ⟨w.heap.size,0,none⟩),.pointer (some ⟨w2.heap.size + 1,0,none⟩)]] 71) = w4 at *
  have Hbb:=zH (show Below w.heap.size w w4 from Hb2.out.trans (Hb4.out.mono (by have:=Hs.out;omega)))
  have Hend:=zH (fun (wr : World) (hb : Below w4.heap.size (wo (w.heap.size + 1) w4) (wo (w.heap.size + 1) wr))=>(show Below w.heap.size w wr from Hbb.out.trans (wo_un hb (by omega) Hbb.out.size)))
  clear hX t0 t1 hA1 hn1 hs1 hA2 T2 hs2
  obtain ⟨t0,t1⟩:=t0k Hbx.out
  generalize w2.heap.size = bs at *
  generalize hba : w.heap.size + 1 = ba at *
  go_wp2
  go_loopw [14] (fun j wr=>∃ (k : Nat) (f' : Nat → Int),j = .int .i64 k ∧ k ≤ T.nodes.length ∧ CX wr T bs ba w.heap.size (bs + 1) f' ∧ Below w4.heap.size (wo ba w4) (wo ba wr) ∧ DfI T f' [] ∧ (∀ j,j < k → (T.node (j : Nat)).bool = true → f' j = 2)) (fun j _=>T.nodes.length - (intOf j).toNat)
  case atStart=>exact ⟨0,_,rfl,by omega,HX.out,Below.refl _ _,DfI.start T,fun j h=>by omega⟩
  case round =>
    obtain ⟨k,f',rfl,hk,hx,hb,hd,hall⟩:=hrel
    have HXr:=zH hx;have Hbr:=zH hb;have HDr:=zH hd;have Har:=zH hall
    clear hx hb hd hall t0 t1
    by_cases hlt : k < T.nodes.length
    · have g0 : wr.cell? ⟨bs + 1,0,none⟩ = some (.func (.func 90) #[] #[.pointer (some ⟨bs,0,none⟩),.pointer (some ⟨w.heap.size,0,none⟩),.pointer (some ⟨bs + 1,0,none⟩)]):=by simp [World.cell?,HXr.out.g]
      have Hcall:=zH (ti0 T HK.out bs ba w.heap.size (bs + 1) _ f' [] k wr (Nat.le_refl _) hlt HDr.out (fun q hq=>by simp at hq) HXr.out)
      go_wp2_with (go_at_call 90;refine Hcall.out.mono ?_;rintro e w6 ⟨b,f6,rfl,hx6,hb6,ht6,hf6⟩;have HX6:=zH hx6;have Hb6:=zH (show Below w4.heap.size (wo ba w4) (wo ba w6) from Hbr.out.trans (hb6.mono (by have:=Hbr.out.size;rwa [t1e,t1e] at this)));have Ht6:=zH ht6;have Hf6:=zH hf6;clear hx6 hb6 ht6 hf6;cases b)
      · go_ret
        have hno : decide (Ctr T) = false:=decide_eq_false (Hf6.out (by trivial))
        rw [hno]
        exact ⟨rfl,Hend.out _ Hb6.out⟩
      · obtain ⟨hd6,hm6,hk6⟩:=Ht6.out (by trivial)
        refine ⟨⟨k + 1,f6,by go_num,by omega,HX6.out,Hb6.out,hd6,fun j hj hbj=>?_⟩,by simp [intOf];omega⟩
        rcases Nat.lt_succ_iff_lt_or_eq.1 hj with g | rfl
        · have e1:=Har.out j g hbj
          have hj2 : j < T.len:=by show j < T.nodes.length;omega
          rw [hm6 j hj2 (by omega),e1]
        · exact hk6 hbj
    · obtain rfl : k = T.nodes.length:=by omega
      go_wp2
      go_ret
      have hyes : decide (Ctr T) = true:=decide_eq_true (HDr.out.done HK.out fun i hi hb=>Har.out i hi hb)
      rw [hyes]
      exact ⟨rfl,Hend.out _ Hbr.out⟩
end Go.Proofs.YtjgldaaofdpcgaaGreat
