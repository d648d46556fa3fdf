/- Walks and plain facts for the laws of membership, for all values and types that the heap holds (texts Z7 Z8). -/
import Derived.Test.YtjgldaaofdpcgaaGreatW03
import Derived.Test.YtjgldaaofdpcgaaGreatW22
set_option linter.unusedVariables false
set_option linter.unusedSimpArgs false
namespace Go.Proofs.YtjgldaaofdpcgaaGreat
open Go.RowKit Go.Ident
set_option maxRecDepth 100000
theorem t1v {E : Nat → Bool} {n bx : Nat} {w : World} {v : Value} {V : VV} (h : VW (we E w) v V) (hx : E bx = true) (hl : ∀ k,k < n → E k = true) (cs : Array Value) : VW (we (lo n) (w.setRow bx cs)) v V :=
  (h.below (by rw [t0j];exact t4e hx cs)).sub (t2r _ fun k hk=>hl k (by simpa [lo] using hk))
theorem t5g (V : VV) (l : List ByteArray) : (V.lab l).nodes = V.nodes:=by cases V;rfl
theorem t2l : ∀ {l : List VV} {N : Nat},(∀ x ∈ l,x.nodes ≤ N) → (l.map VV.nodes).sum ≤ l.length * N
  | [],N,_=>by simp
  | x :: r,N,h=>by
    have h1:=h x (by simp)
    have h2:=t2l (l:=r) (N:=N) fun y hy=>h y (by simp [hy])
    simp only [List.map_cons,List.sum_cons,List.length_cons,Nat.add_mul,Nat.one_mul]
    omega
def GB (N : Nat) (F : Nat) (S : SD) (h : Int) : Prop:=∀ w,SRC S w → Calls Tryz.prog F #[.pointer (some ⟨S.b,0,none⟩),.int .i64 h] w (GV (fun V=>V.nodes ≤ N) S w)
set_option maxHeartbeats 16000000 in
theorem ta8 (S : SD) (h : Int) (N : Nat) (hv : GB N 26 S h) (w : World) (hS : SRC S w) : Calls Tryz.prog 12 #[.pointer (some ⟨S.b,0,none⟩),.int .i64 h] w (GV (fun V=>V.nodes ≤ N ∧ V.labels.length ≤ 1000) S w):=by
  have HV:=zH hv
  have Hb:=zH (show w.heap.size ≠ S.b by have:=hS.lt;omega)
  have hltS:=hS.lt
  have Ha:=zH (SR.alloc hS (.cells #[.int .i64 0,.int .i64 0,.string ⟨#[]⟩,.slice none 0 0,.slice none 0 0,.slice none 0 0,.slice none 0 0] 28))
  have Hn:=zH (heap_alloc_new w (.cells #[.int .i64 0,.int .i64 0,.string ⟨#[]⟩,.slice none 0 0,.slice none 0 0,.slice none 0 0,.slice none 0 0] 28))
  have Hs:=zH (show (w.alloc (.cells #[.int .i64 0,.int .i64 0,.string ⟨#[]⟩,.slice none 0 0,.slice none 0 0,.slice none 0 0,.slice none 0 0] 28)).heap.size = w.heap.size + 1 by simp)
  clear hS hv
  go_enter Tryz.func12,Tryz.ntmps12
  go_upto_region 1 with fail
  generalize w.alloc (.cells #[.int .i64 0,.int .i64 0,.string ⟨#[]⟩,.slice none 0 0,.slice none 0 0,.slice none 0 0,.slice none 0 0] 28) = w1 at *
  go_upto_region 2 with (go_at_call 26;refine (HV.out w1 Ha.out.src).mono ?_;rintro e w2 ⟨v2,X,rfl,hx,hq,hs⟩;obtain ⟨d,cs,rfl,hx⟩:=hx;obtain ⟨x1,x2,x3,x4,x5,x6,x7,x8,rfl⟩:=hx.seven;have HX:=zH hx;have Hq:=zH hq;have Hs2:=zH hs;have H2:=zH (Ha.out.trans hs);have Z2:=zH ((hs.block (t0a Hn.out) Hb.out).trans Hn.out);clear hx hq hs)
  have hZ3:=heap_alloc_new w2 (.cells #[.int .i64 X.kind,.int .i64 X.num,.string X.text,.slice x1 X.kids.length x2,.slice x3 X.keys.length x4,.slice x5 X.ents.length x6,.slice x7 X.labels.length x8] 28)
  have hb3 : Below w2.heap.size w2 (w2.alloc (.cells #[.int .i64 X.kind,.int .i64 X.num,.string X.text,.slice x1 X.kids.length x2,.slice x3 X.keys.length x4,.slice x5 X.ents.length x6,.slice x7 X.labels.length x8] 28)):=(Below.refl _ _).alloc (Nat.le_refl _) _
  generalize w2.alloc (.cells #[.int .i64 X.kind,.int .i64 X.num,.string X.text,.slice x1 X.kids.length x2,.slice x3 X.keys.length x4,.slice x5 X.ents.length x6,.slice x7 X.labels.length x8] 28) = w3 at *
  have H3:=zH (H2.out.step hb3);have Hb3:=zH hb3;have HZ3:=zH hZ3
  clear hb3 hZ3
  have Hsz:=zH (show w.heap.size + 1 ≤ w2.heap.size from by have:=Hs2.out.size;have:=Hs.out;omega)
  go_upto_region 3 with (go_at_call 27;refine (t6k S w3 H3.out.src).mono ?_;rintro e w4 ⟨v4,l4,rfl,hl4,hn4,hs⟩;have Hn4:=zH hn4;clear hn4;obtain ⟨p4,c4,e4,-⟩:=(id hl4);subst e4;have HL4:=zH hl4;have Hs4:=zH hs;have hA4:=(hs.block (t0a HZ3.out) (by have:=Hsz.out;omega)).trans HZ3.out;have HA4:=zH hA4;have hz6 : w4.cell? ⟨w2.heap.size,6,none⟩ = some (.slice x7 X.labels.length x8):=(by simp [World.cell?,hA4]);have hz7 : w4.frozen? ⟨w2.heap.size,6,none⟩ = false:=(by simp [World.frozen?,hA4]);clear hl4 hs hA4)
  have HU:=zH (Upd.set (i:=6) (v:=.slice p4 l4.length c4) (Upd.refl HA4.out))
  have hA5:=HU.out.blk
  have hlt3 : w2.heap.size < w3.heap.size:=t0a HZ3.out
  have hw12 : w1.heap.size ≤ w2.heap.size:=Hs2.out.size
  have hE : ex (lo w1.heap.size) w2.heap.size S.b = true:=by simp [ex,lo_b (Ha.out.src) (Nat.le_refl _)]
  have hE2 : ex (lo w1.heap.size) w2.heap.size w2.heap.size = true:=by simp [ex]
  have hE3 : ex (lo w1.heap.size) w2.heap.size w.heap.size = true:=by have:=t0a Hn.out;simp [ex,lo,this]
  have hold : Old (ex (lo w1.heap.size) w2.heap.size) w3.heap.size:=t3e ((t1g _).mono (by omega)) hlt3
  have hx5:=((HX.out.below (t4q Hb3.out (Nat.le_refl _))).below (by rw [t0j];exact Hs4.out.we hE)).below (by rw [t0j];exact t1n HU.out hE2)
  have hl5:=(HL4.out.sub (t4f w4 hold)).below (by rw [t0j];exact t1n HU.out hE2)
  have Hfin:=zH (t7s hx5 hl5)
  have H5:=zH ((H3.out.trans Hs4.out).app (HU.out.below (B:=w.heap.size) (by have:=t0a Hn.out;omega)))
  have Hlow:=zH (show ∀ k,k < w.heap.size → ex (lo w1.heap.size) w2.heap.size k = true from fun k hk=>by have:=t0a Hn.out;simp [ex,lo];omega)
  have HE3:=zH hE3
  have hC5:=(HU.out.other w.heap.size (by have:=t0a Hn.out;omega)).trans ((Hs4.out.block (by have:=t0a Hn.out;omega) Hb.out).trans ((Hb3.out.block _ (by have:=t0a Hn.out;omega)).trans Z2.out))
  clear hx5 hl5 hE hE2 hE3 hold hz6 hz7
  generalize w4.setCell ⟨w2.heap.size,6,none⟩ (.slice p4 l4.length c4) = w5 at *
  simp at hA5
  obtain ⟨⟨f0,f1,f2,f3⟩,f4,f5,f6⟩:=t0f hA5
  go_wp2_with (with_reducible refine wpList_store_row rfl 28 (.tmp 4) (.tmp 12) rfl _ _ rfl rfl _ _ hC5 (by kernel_rfl) (by kernel_rfl) (by kernel_rfl) ?_)
  refine bodyPost_ret (results_cell_row rfl _ _ w.heap.size 28 _ (0,0) _ rfl (setRow_heap _ _ _ _ _ _ hC5) rfl rfl (by kernel_rfl)) rfl ?_
  exact ⟨_,_,rfl,t1v Hfin.out HE3.out Hlow.out _,⟨by show (X.lab l4).nodes ≤ N;rw [t5g];exact Hq.out,by cases X;exact Hn4.out⟩,H5.out.row (Nat.le_refl _) Hb.out _⟩
theorem tb9 (S : SD) (h : Int) (N : Nat) (hv : GB N 26 S h) : GB N 12 S h:=fun w hS=>(ta8 S h N hv w hS).mono fun _ _ ⟨v,V,h1,h2,h3,h4⟩=>⟨v,V,h1,h2,h3.1,h4⟩
end Go.Proofs.YtjgldaaofdpcgaaGreat
namespace Go.Proofs.YtjgldaaofdpcgaaGreat
open Go.RowKit Go.Ident
set_option maxRecDepth 100000
def GEn (M : Nat) (S : SD) (w : World) (e : Ending) (w' : World) : Prop:=∃ cs X d,e = .returned (.agg cs.toArray) ∧ ES (we (lo w.heap.size) w') d X cs ∧ X.nodes ≤ 3 * M ∧ X.args.length ≤ 2 ∧ SR S w w'
theorem t5t {S : SD} {w w' : World} {b : Nat} (h : SR S w w') (hb : b ≠ S.b) (hl : b < w.heap.size) : LexK.Ext (fun x=>x = b) w w':=⟨h.size,fun i hi e=>by
  have e : i = b:=e
  subst e;exact h.block hi hb⟩
theorem t7t {w w' : World} {b B : Nat} (h : Below B w w') (hl : b < B) : LexK.Ext (fun x=>x = b) w w':=⟨h.size,fun i _ e=>by
  have e : i = b:=e
  subst e;exact h.block _ hl⟩
theorem SRC.drew {S : SD} {w : World} (h : SRC S w) : SRC S w.drew:=⟨h.blk,h.row,h.len⟩
theorem tba {E : Nat → Bool} {n bx d : Nat} {w : World} {X : EE} {vs : List Value} (h : ES (we E w) d X vs) (hx : E bx = true) (hl : ∀ k,k < n → E k = true) (cs : Array Value) : ES (we (lo n) (w.setRow bx cs)) d X vs :=
  (h.below (by rw [t0j];exact t4e hx cs)).sub (t2r _ fun k hk=>hl k (by simpa [lo] using hk))
def aE (B : Nat) (v u : Value) : Nat → Bool:=fun k=>decide (k < B) || (decide (v.ownBlock = some k) || decide (u.ownBlock = some k))
theorem aE_b {B : Nat} {v u : Value} {k : Nat} (h : k < B) : aE B v u k = true:=by simp [aE,h]
theorem t3g {w : World} {B B1 B2 n1 n2 s1 s2 : Nat} {e1 e2 : TypeId} {v u : Value} {xs ys : List Value} (h1 : w.ownsRow B1 e1 s1 v n1 xs) (h2 : w.ownsRow B2 e2 s2 u n2 ys) (hB : B ≤ w.heap.size) : Old (aE B v u) w.heap.size:=fun k hk=>by
  simp only [aE,Bool.or_eq_false_iff,decide_eq_false_iff_not]
  exact ⟨by omega,fun e=>by have:=(h1.lt k e).2;omega,fun e=>by have:=(h2.lt k e).2;omega⟩
theorem tj3 {w : World} {a o : Nat} {v : Value} (h : w.cell? ⟨a,o,none⟩ = some v) : a < w.heap.size:=by
  by_cases e : a < w.heap.size
  · exact e
  · exfalso
    unfold World.cell? at h
    have e1 : w.heap[a]? = none:=Array.getElem?_eq_none (by omega)
    simp [e1] at h
theorem t4g {B : Nat} {v v' u : Value} {w w' : World} (hf : Fr [] v v' w w') : Sub (we (aE B v u) w) (we (aE B v' u) w'):=by
  refine ⟨by rw [t0j,t0j];exact hf.size,fun a o z hz=>?_⟩
  obtain ⟨h1,h2⟩:=t1j hz
  have hl:=tj3 h2
  simp only [aE,Bool.or_eq_false_iff,decide_eq_false_iff_not] at h1
  have h3 : aE B v' u a = false:=by
    simp only [aE,Bool.or_eq_false_iff,decide_eq_false_iff_not]
    refine ⟨h1.1,fun e=>?_,h1.2.2⟩
    rcases hf.own with e2 | e2
    · rw [e2] at e;exact h1.2.1 e
    · have:=e2 a e;omega
  rw [t6m (we_at h3)]
  exact (t6m (hf.block a hl (by simp) h1.2.1)).trans h2
theorem t3u (B : Nat) (v u : Value) : aE B v u = aE B u v:=by funext k;simp [aE,Bool.or_comm]
theorem aE_lo (B : Nat) (v u : Value) (w : World) : Sub (we (aE B v u) w) (we (lo B) w):=t2r w fun k hk=>aE_b (by simpa [lo] using hk)
theorem t4z {S : SD} {wq w5 w7 : World} {B d dv : Nat} {o : Obj} {av v7 u : Value} {A : List VV} {xs cs : List Value} {X : VV} (hc : Ch 7 (VS (we (aE B av u) wq) d) A xs) (hs : SR S wq w5) (hSb : S.b < B) (hx : VS (we (lo wq.heap.size) w5) dv X cs)
    (hold : Old (aE B av u) wq.heap.size) (hf : Fr [] av v7 (w5.alloc o) w7) : Ch 7 (VS (we (aE B v7 u) w7) (max d dv)) (A ++ [X]) (xs ++ cs):=by
  have hal : Below (we (aE B av u) w5).heap.size (we (aE B av u) w5) (we (aE B av u) (w5.alloc o)):=by rw [t0j];exact t1l ((Below.refl _ _).alloc (Nat.le_refl _) _)
  have h1 : Ch 7 (VS (we (aE B v7 u) w7) (max d dv)) A xs:=hc.mono fun x cs _ h=>((((h.below (by rw [t0j];exact hs.we (aE_b hSb))).below hal).sub (t4g hf)).up (Nat.le_max_left _ _))
  have h2 : VS (we (aE B v7 u) w7) (max d dv) X cs:=((((hx.sub (t4f w5 hold)).below hal).sub (t4g hf)).up (Nat.le_max_right _ _))
  exact h1.append (Ch.single h2.len h2)
set_option maxHeartbeats 32000000 in
theorem tfu (S : SD) (n : Nat) (h : Int) (M : Nat) (hn : n ≤ 2) (hM : 1 ≤ M) (hv : GB M 12 S h) (w : World) (hS : SRC S w) : Calls Tryz.prog 47 #[.pointer (some ⟨S.b,0,none⟩),.int .i64 (n : Int),.int .i64 h] w (GEn M S w):=by
  have HV:=zH hv
  have hltS:=hS.lt
  obtain ⟨w2,e9,hA,hB,hb⟩:=t1f w (.cells #[.slice none 0 0,.bool false,.int .i64 0,.int .i64 0,.string ⟨#[]⟩,.slice none 0 0,.slice none 0 0,.slice none 0 0,.slice none 0 0] 55) (.cells #[.slice none 0 0,.bool false,.int .i64 0,.int .i64 0,.string ⟨#[]⟩,.slice none 0 0,.slice none 0 0,.slice none 0 0,.slice none 0 0] 55)
  have H2:=zH ((SR.refl hS).app hb)
  have HA:=zH hA;have HB:=zH hB
  have hlA:=t0a hA;have hlB:=t0a hB
  have Hb1:=zH (show w.heap.size ≠ S.b by omega)
  have Hb2:=zH (show w.heap.size + 1 ≠ S.b by omega)
  have HE:=zH (show lo (w.heap.size + 2) S.b = true by simp [lo];omega)
  have HEA:=zH (show lo (w.heap.size + 2) w.heap.size = true by simp [lo])
  have HEB:=zH (show lo (w.heap.size + 2) (w.heap.size + 1) = true by simp [lo])
  have HEL:=zH (show ∀ k,k < w.heap.size → lo (w.heap.size + 2) k = true from fun k hk=>by simp [lo];omega)
  clear hA hB hb hv hS
  go_enter Tryz.func47,Tryz.ntmps47
  go_wp2
  try rw [e9]
  clear e9
  go_loopw [1] (fun nv wr=>∃ (m : Nat) (A : List VV) (xs : List Value) (d : Nat) (av : Value),nv = .int .i64 (m : Int) ∧ m + A.length ≤ n ∧ wr.heap[w.heap.size + 1]? = some (.cells #[av,.bool false,.int .i64 0,.int .i64 0,.string ⟨#[]⟩,.slice none 0 0,.slice none 0 0,.slice none 0 0,.slice none 0 0] 55) ∧ wr.ownsRow (w.heap.size + 2) 28 7 av A.length xs ∧ Ch 7 (VS (we (aE (w.heap.size + 2) av (.slice none 0 0)) wr) d) A xs ∧ (∀ x ∈ A,x.nodes ≤ M) ∧ wr.heap[w.heap.size]? = some (.cells #[.slice none 0 0,.bool false,.int .i64 0,.int .i64 0,.string ⟨#[]⟩,.slice none 0 0,.slice none 0 0,.slice none 0 0,.slice none 0 0] 55) ∧ SR S w wr) (fun nv _=>(intOf nv).toNat)
  case atStart=>exact ⟨n,[],[],0,_,rfl,by simp,HB.out,World.ownsRow_nil _ _ _ _,Ch.nil,fun x hx=>by simp at hx,HA.out,H2.out⟩
  case round =>
    obtain ⟨m,A,xs,d,av,rfl,hm,hBr,ho,hc,hN,hAr,hsr⟩:=hrel
    obtain ⟨pa,ca,rfl⟩:=t0r ho
    have HBr:=zH hBr;have Ho:=zH ho;have Hc:=zH hc;have HN:=zH hN;have HAr:=zH hAr;have Hsr:=zH hsr
    have hlBr:=t0a hBr
    have hsz2 : w.heap.size + 2 ≤ wr.heap.size:=hlBr
    obtain ⟨⟨g0,g1,g2,g3⟩,⟨g4,g5,g6,g7⟩,g8⟩:=t1k hBr
    clear hBr ho hc hN hAr hsr
    by_cases hm0 : 0 < m
    · have d9 : decide (0 < m) = true:=by simp [hm0]
      have LB:=zH (show (w.heap.size + 1 : Nat) = w.heap.size + 1 from rfl)
      have YB:=zH (show wr.drew.cell? ⟨w.heap.size + 1,0,none⟩ = _ from g0)
      have Hsd:=zH Hsr.out.src.drew
      have hm1 : ((m : Int) - 1) = ((m - 1 : Nat) : Int):=by omega
      obtain ⟨wq,hwq⟩ : ∃ wq : World,wq = wr:=⟨_,rfl⟩
      subst hwq
      go_wp2_with (first
        | ((with_reducible refine Lex.t0w ?_);refine fE (by repeat first | exact LexK.t0t | refine LexK.t0o rfl ?_ | refine LexK.t0p (by decide +kernel) ?_ | refine LexK.t0c rfl (Eq.refl _) YB.out ?_) ?_)
        | ((with_reducible refine Lex.t0q ?_);refine LexK.t0h (fun x=>x = w.heap.size + 1) (by kernel_rfl) (by decide +kernel) ?_)
        | (with_reducible first | refine qH ?_ | refine LexK.t0s ?_ | refine LexK.t0v ?_)
        | ((with_reducible refine Lex.t1b ?_);first | (refine LexK.t0e hex5.out ?_) | (refine LexK.t0e hex7.out ?_) | (refine LexK.t0e (LexK.Ext.alloc _ _) ?_) | (refine LexK.t0e (LexK.Ext.refl _) ?_))
        | (go_at_call 12;refine (HV.out wq.drew Hsd.out).mono ?_;rintro e w5 ⟨v5,X,rfl,hx,hq,hs⟩;obtain ⟨dv,cs,rfl,hx⟩:=hx;obtain ⟨x1,x2,x3,x4,x5,x6,x7,x8,rfl⟩:=hx.seven;have HX:=zH hx;have Hq:=zH hq;have Hs5:=zH hs;have hex5:=zH (t5t hs Hb2.out hlBr);have Ho5:=zH (hs.owns (t1s Ho.out) (by omega));have H5:=zH (Hsr.out.drew.trans hs);have Hone:=zH hx.one;have hw5 : w.heap.size + 2 ≤ w5.heap.size:=(Nat.le_trans hsz2 hs.size);clear hx hq hs)
        | (at_builtin;(refine t0n rfl (.tmp 13) (.tmp 17) 23 rfl 28 (by kernel_rfl) t1w rfl (by decide) (by decide) (w.heap.size + 2) _ w5.heap.size [.int .i64 X.kind,.int .i64 X.num,.string X.text,.slice x1 X.kids.length x2,.slice x3 X.keys.length x4,.slice x5 X.ents.length x6,.slice x7 X.labels.length x8] (heap_alloc_new w5 _) (Nat.le_trans hw5 (by simp)) rfl Hone.out (.slice pa A.length ca) A.length xs rfl (t0d Ho5.out ((Below.refl _ _).alloc (Nat.le_refl _) _) (Nat.le_refl _)) (by omega) rfl ?_);intro v7 w7 ho7 hf7;have hb7:=(hf7.below (Nat.le_trans hw5 (by simp)) (by simp) fun g hg=>(Ho5.out.lt g hg).1);have hex7:=zH (show LexK.Ext (fun x=>x = w.heap.size + 1) (w5.alloc (.cells #[.int .i64 X.kind,.int .i64 X.num,.string X.text,.slice x1 X.kids.length x2,.slice x3 X.keys.length x4,.slice x5 X.ents.length x6,.slice x7 X.labels.length x8] 28)) w7 from t7t hb7 (by omega));have Hb7:=zH (((Below.refl w5.heap.size w5).alloc (Nat.le_refl _) (.cells #[.int .i64 X.kind,.int .i64 X.num,.string X.text,.slice x1 X.kids.length x2,.slice x3 X.keys.length x4,.slice x5 X.ents.length x6,.slice x7 X.labels.length x8] 28)).mono hw5 |>.trans hb7);obtain ⟨p7,c7,rfl⟩:=t0r ho7;have Ho7:=zH ho7;have hB7:=(Hb7.out.block (w.heap.size + 1) (by omega)).trans ((Hs5.out.block hlBr Hb2.out).trans HBr.out);have HB7:=zH hB7;have HU:=zH (Upd.set (i:=0) (v:=.slice p7 (A.length + 1) c7) (Upd.refl hB7));have hz0 : w7.cell? ⟨w.heap.size + 1,0,none⟩ = some (.slice pa A.length ca):=(by simp [World.cell?,hB7]);have hz1 : w7.frozen? ⟨w.heap.size + 1,0,none⟩ = false:=(by simp [World.frozen?,hB7]);have Hf7:=zH hf7;clear ho7 hf7 hb7 hB7))
      have hB8:=HU.out.blk
      have hcA:=t4z Hc.out ((SR.refl Hsr.out.src).drew.trans Hs5.out) (by omega) HX.out (t3g Ho.out (World.ownsRow_nil wq 0 0 0) hsz2) Hf7.out
      refine ⟨⟨m - 1,A ++ [X],xs ++ [.int .i64 X.kind,.int .i64 X.num,.string X.text,.slice x1 X.kids.length x2,.slice x3 X.keys.length x4,.slice x5 X.ents.length x6,.slice x7 X.labels.length x8],max d dv,.slice p7 (A.length + 1) c7,by first | rfl | (congr 1),by simp;omega,by simpa using hB8,by rw [List.length_append];exact t1r Ho7.out HU.out (by omega),?_,fun x hx=>?_,?_,(H5.out.app (Hb7.out.mono (by omega))).app (HU.out.below (by omega))⟩,by simp [intOf];omega⟩
      · exact hcA.mono fun x cs _ h=>h.below (by rw [t0j];exact t1n HU.out (aE_b (by omega)))
      · rcases List.mem_append.1 hx with hx | hx
        · exact HN.out x hx
        · rw [List.mem_singleton.1 hx];exact Hq.out
      · exact (HU.out.other w.heap.size (by omega)).trans ((Hb7.out.block _ (by omega)).trans ((Hs5.out.block (by show w.heap.size < wq.heap.size;omega) Hb1.out).trans HAr.out))
    · have d9 : decide (0 < m) = false:=by simp;omega
      have hlAr:=t0a HAr.out
      go_upto_region 6 with (go_at_call 24;refine (t0z S 4 wr Hsr.out.src (by omega)).mono ?_;rintro e w3 ⟨y,rfl,hs,h0,h1,-⟩;have h1:=h1 (by decide);have Hs3:=zH hs;have H3:=zH (Hsr.out.trans hs);clear hs;rcases (show y = 0 ∨ y = 1 ∨ y = 2 ∨ y = 3 by omega) with rfl | rfl | rfl | rfl)
      · have HB3:=zH ((Hs3.out.block hlBr Hb2.out).trans HBr.out)
        have hl3 : w.heap.size + 2 ≤ w3.heap.size:=Nat.le_trans hsz2 Hs3.out.size
        go_upto_region 9 with (go_at_call 12;refine (HV.out w3 H3.out.src).mono ?_;rintro e w4 ⟨v4,X,rfl,hx,hq,hs⟩;obtain ⟨dv,cs,rfl,hx⟩:=hx;obtain ⟨x1,x2,x3,x4,x5,x6,x7,x8,rfl⟩:=hx.seven;have HX:=zH hx;have Hq:=zH hq;have Hs4:=zH hs;have hB4:=(hs.block (t0a HB3.out) Hb2.out).trans HB3.out;have HB4:=zH hB4;have hz1 : ∀ i,w4.frozen? ⟨w.heap.size + 1,i,none⟩ = false:=(fun i=>by simp [World.frozen?,hB4]);clear g0 g1 g2 g3 g4 g5 g6 g7 g8;obtain ⟨⟨g0,g1,g2,g3⟩,⟨g4,g5,g6,g7⟩,g8⟩:=t1k hB4;clear hx hq hs hB4)
        have HU:=zH (Upd.set (i:=8) (v:=.slice x7 X.labels.length x8) (Upd.set (i:=7) (v:=.slice x5 X.ents.length x6) (Upd.set (i:=6) (v:=.slice x3 X.keys.length x4) (Upd.set (i:=5) (v:=.slice x1 X.kids.length x2) (Upd.set (i:=4) (v:=.string X.text) (Upd.set (i:=3) (v:=.int .i64 X.num) (Upd.set (i:=2) (v:=.int .i64 X.kind) (Upd.refl HB4.out))))))))
        have hB5:=HU.out.blk
        have hA5:=(HU.out.other w.heap.size (by omega)).trans ((Hs4.out.block (by omega) Hb1.out).trans ((Hs3.out.block hlAr Hb1.out).trans HAr.out))
        have Ho5:=zH (t1r (Hs4.out.owns (Hs3.out.owns Ho.out (by omega)) (by omega)) HU.out (by omega))
        have HcE:=zH (show Ch 7 (VS (we (lo (w.heap.size + 2)) (((((((w4.setCell ⟨w.heap.size + 1,2,none⟩ (.int .i64 X.kind)).setCell ⟨w.heap.size + 1,3,none⟩ (.int .i64 X.num)).setCell ⟨w.heap.size + 1,4,none⟩ (.string X.text)).setCell ⟨w.heap.size + 1,5,none⟩ (.slice x1 X.kids.length x2)).setCell ⟨w.heap.size + 1,6,none⟩ (.slice x3 X.keys.length x4)).setCell ⟨w.heap.size + 1,7,none⟩ (.slice x5 X.ents.length x6)).setCell ⟨w.heap.size + 1,8,none⟩ (.slice x7 X.labels.length x8))) (max d dv)) A xs from Hc.out.mono fun x cs _ h=>(((((h.below (by rw [t0j];exact Hs3.out.we (aE_b (by omega)))).below (by rw [t0j];exact Hs4.out.we (aE_b (by omega)))).below (by rw [t0j];exact t1n HU.out (aE_b (by omega)))).sub (aE_lo _ _ _ _)).up (Nat.le_max_left _ _)))
        have HXE:=zH (show VS (we (lo (w.heap.size + 2)) (((((((w4.setCell ⟨w.heap.size + 1,2,none⟩ (.int .i64 X.kind)).setCell ⟨w.heap.size + 1,3,none⟩ (.int .i64 X.num)).setCell ⟨w.heap.size + 1,4,none⟩ (.string X.text)).setCell ⟨w.heap.size + 1,5,none⟩ (.slice x1 X.kids.length x2)).setCell ⟨w.heap.size + 1,6,none⟩ (.slice x3 X.keys.length x4)).setCell ⟨w.heap.size + 1,7,none⟩ (.slice x5 X.ents.length x6)).setCell ⟨w.heap.size + 1,8,none⟩ (.slice x7 X.labels.length x8))) (max d dv) X [.int .i64 X.kind,.int .i64 X.num,.string X.text,.slice x1 X.kids.length x2,.slice x3 X.keys.length x4,.slice x5 X.ents.length x6,.slice x7 X.labels.length x8] from ((HX.out.sub (t1m w4 hl3)).below (by rw [t0j];exact t1n HU.out HEB.out)).up (Nat.le_max_right _ _))
        have H5:=zH ((H3.out.trans Hs4.out).app (HU.out.below (B:=w.heap.size) (by omega)))
        clear hz1 g0 g1 g2 g3 g4 g5 g6 g7 g8
        generalize (((((((w4.setCell ⟨w.heap.size + 1,2,none⟩ (.int .i64 X.kind)).setCell ⟨w.heap.size + 1,3,none⟩ (.int .i64 X.num)).setCell ⟨w.heap.size + 1,4,none⟩ (.string X.text)).setCell ⟨w.heap.size + 1,5,none⟩ (.slice x1 X.kids.length x2)).setCell ⟨w.heap.size + 1,6,none⟩ (.slice x3 X.keys.length x4)).setCell ⟨w.heap.size + 1,7,none⟩ (.slice x5 X.ents.length x6)).setCell ⟨w.heap.size + 1,8,none⟩ (.slice x7 X.labels.length x8)) = w5 at *
        simp at hB5
        obtain ⟨⟨g0,g1,g2,g3⟩,⟨g4,g5,g6,g7⟩,g8⟩:=t1k hB5
        go_wp2_with (with_reducible refine wpList_store_row rfl 55 (.tmp 6) (.tmp 29) rfl _ _ rfl rfl _ _ hA5 (by kernel_rfl) (by kernel_rfl) (by kernel_rfl) ?_)
        refine bodyPost_ret (results_cell_row rfl _ _ w.heap.size 55 _ (0,0) _ rfl (setRow_heap _ _ _ _ _ _ hA5) rfl rfl (by kernel_rfl)) rfl ?_
        obtain ⟨pz,cz,ez,hrw⟩:=t1o (t1q Ho5.out (t1g _)) HcE.out (by omega)
        injection ez with ez1 _ ez3
        subst ez1 ez3
        exact ⟨_,.mk A false X,max d dv,rfl,tba ⟨pa,ca,_,rfl,hrw,HXE.out⟩ HEA.out HEL.out _,by rw [t5e];simp only [EE.parts,EE.args,EE.fails,EE.res,Bool.false_eq_true,if_false,List.map_append,List.sum_append,List.map_cons,List.map_nil,List.sum_cons,List.sum_nil];have:=t2l HN.out;have:=Nat.mul_le_mul_right M (show A.length ≤ 2 by omega);have:=Hq.out;omega,by show A.length ≤ 2;omega,H5.out.row (Nat.le_refl _) Hb1.out _⟩
      · have HB3:=zH ((Hs3.out.block hlBr Hb2.out).trans HBr.out)
        have hz0 : w3.cell? ⟨w.heap.size + 1,1,none⟩ = some (.bool false):=by simp [World.cell?,HB3.out]
        have hz1 : w3.frozen? ⟨w.heap.size + 1,1,none⟩ = false:=by simp [World.frozen?,HB3.out]
        have HU:=zH (Upd.set (i:=1) (v:=.bool true) (Upd.refl HB3.out))
        clear g0 g1 g2 g3 g4 g5 g6 g7 g8
        go_upto_region 7 with fail
        have hB4:=HU.out.blk
        have hA4:=(HU.out.other w.heap.size (by omega)).trans ((Hs3.out.block hlAr Hb1.out).trans HAr.out)
        have Ho4:=zH (t1r (Hs3.out.owns Ho.out (by omega)) HU.out (by omega))
        have hcE : Ch 7 (VS (we (lo (w.heap.size + 2)) (w3.setCell ⟨w.heap.size + 1,1,none⟩ (.bool true))) (max d 1)) A xs:=Hc.out.mono fun x cs _ h=>((((h.below (by rw [t0j];exact Hs3.out.we (aE_b (by omega)))).below (by rw [t0j];exact t1n HU.out (aE_b (by omega)))).sub (aE_lo _ _ _ _)).up (Nat.le_max_left _ _))
        have HcE:=zH hcE
        have H4:=zH (H3.out.app (HU.out.below (B:=w.heap.size) (by omega)))
        clear hcE hz0 hz1
        generalize w3.setCell ⟨w.heap.size + 1,1,none⟩ (.bool true) = w4 at *
        simp at hB4
        obtain ⟨⟨g0,g1,g2,g3⟩,⟨g4,g5,g6,g7⟩,g8⟩:=t1k hB4
        go_wp2_with (with_reducible refine wpList_store_row rfl 55 (.tmp 6) (.tmp 24) rfl _ _ rfl rfl _ _ hA4 (by kernel_rfl) (by kernel_rfl) (by kernel_rfl) ?_)
        refine bodyPost_ret (results_cell_row rfl _ _ w.heap.size 55 _ (0,0) _ rfl (setRow_heap _ _ _ _ _ _ hA4) rfl rfl (by kernel_rfl)) rfl ?_
        obtain ⟨pz,cz,ez,hrw⟩:=t1o (t1q Ho4.out (t1g _)) HcE.out (by omega)
        injection ez with ez1 _ ez3
        subst ez1 ez3
        exact ⟨_,.mk A true zeroV,max d 1,rfl,tba ⟨pa,ca,_,rfl,hrw,(t4c _).up (Nat.le_max_right _ _)⟩ HEA.out HEL.out _,by rw [t5e];simp only [EE.parts,EE.args,EE.fails,if_true,List.append_nil];have:=t2l HN.out;have:=Nat.mul_le_mul_right M (show A.length ≤ 2 by omega);omega,by show A.length ≤ 2;omega,H4.out.row (Nat.le_refl _) Hb1.out _⟩
      · have HB3:=zH ((Hs3.out.block hlBr Hb2.out).trans HBr.out)
        have hl3 : w.heap.size + 2 ≤ w3.heap.size:=Nat.le_trans hsz2 Hs3.out.size
        go_upto_region 9 with (go_at_call 12;refine (HV.out w3 H3.out.src).mono ?_;rintro e w4 ⟨v4,X,rfl,hx,hq,hs⟩;obtain ⟨dv,cs,rfl,hx⟩:=hx;obtain ⟨x1,x2,x3,x4,x5,x6,x7,x8,rfl⟩:=hx.seven;have HX:=zH hx;have Hq:=zH hq;have Hs4:=zH hs;have hB4:=(hs.block (t0a HB3.out) Hb2.out).trans HB3.out;have HB4:=zH hB4;have hz1 : ∀ i,w4.frozen? ⟨w.heap.size + 1,i,none⟩ = false:=(fun i=>by simp [World.frozen?,hB4]);clear g0 g1 g2 g3 g4 g5 g6 g7 g8;obtain ⟨⟨g0,g1,g2,g3⟩,⟨g4,g5,g6,g7⟩,g8⟩:=t1k hB4;clear hx hq hs hB4)
        have HU:=zH (Upd.set (i:=8) (v:=.slice x7 X.labels.length x8) (Upd.set (i:=7) (v:=.slice x5 X.ents.length x6) (Upd.set (i:=6) (v:=.slice x3 X.keys.length x4) (Upd.set (i:=5) (v:=.slice x1 X.kids.length x2) (Upd.set (i:=4) (v:=.string X.text) (Upd.set (i:=3) (v:=.int .i64 X.num) (Upd.set (i:=2) (v:=.int .i64 X.kind) (Upd.refl HB4.out))))))))
        have hB5:=HU.out.blk
        have hA5:=(HU.out.other w.heap.size (by omega)).trans ((Hs4.out.block (by omega) Hb1.out).trans ((Hs3.out.block hlAr Hb1.out).trans HAr.out))
        have Ho5:=zH (t1r (Hs4.out.owns (Hs3.out.owns Ho.out (by omega)) (by omega)) HU.out (by omega))
        have HcE:=zH (show Ch 7 (VS (we (lo (w.heap.size + 2)) (((((((w4.setCell ⟨w.heap.size + 1,2,none⟩ (.int .i64 X.kind)).setCell ⟨w.heap.size + 1,3,none⟩ (.int .i64 X.num)).setCell ⟨w.heap.size + 1,4,none⟩ (.string X.text)).setCell ⟨w.heap.size + 1,5,none⟩ (.slice x1 X.kids.length x2)).setCell ⟨w.heap.size + 1,6,none⟩ (.slice x3 X.keys.length x4)).setCell ⟨w.heap.size + 1,7,none⟩ (.slice x5 X.ents.length x6)).setCell ⟨w.heap.size + 1,8,none⟩ (.slice x7 X.labels.length x8))) (max d dv)) A xs from Hc.out.mono fun x cs _ h=>(((((h.below (by rw [t0j];exact Hs3.out.we (aE_b (by omega)))).below (by rw [t0j];exact Hs4.out.we (aE_b (by omega)))).below (by rw [t0j];exact t1n HU.out (aE_b (by omega)))).sub (aE_lo _ _ _ _)).up (Nat.le_max_left _ _)))
        have HXE:=zH (show VS (we (lo (w.heap.size + 2)) (((((((w4.setCell ⟨w.heap.size + 1,2,none⟩ (.int .i64 X.kind)).setCell ⟨w.heap.size + 1,3,none⟩ (.int .i64 X.num)).setCell ⟨w.heap.size + 1,4,none⟩ (.string X.text)).setCell ⟨w.heap.size + 1,5,none⟩ (.slice x1 X.kids.length x2)).setCell ⟨w.heap.size + 1,6,none⟩ (.slice x3 X.keys.length x4)).setCell ⟨w.heap.size + 1,7,none⟩ (.slice x5 X.ents.length x6)).setCell ⟨w.heap.size + 1,8,none⟩ (.slice x7 X.labels.length x8))) (max d dv) X [.int .i64 X.kind,.int .i64 X.num,.string X.text,.slice x1 X.kids.length x2,.slice x3 X.keys.length x4,.slice x5 X.ents.length x6,.slice x7 X.labels.length x8] from ((HX.out.sub (t1m w4 hl3)).below (by rw [t0j];exact t1n HU.out HEB.out)).up (Nat.le_max_right _ _))
        have H5:=zH ((H3.out.trans Hs4.out).app (HU.out.below (B:=w.heap.size) (by omega)))
        clear hz1 g0 g1 g2 g3 g4 g5 g6 g7 g8
        generalize (((((((w4.setCell ⟨w.heap.size + 1,2,none⟩ (.int .i64 X.kind)).setCell ⟨w.heap.size + 1,3,none⟩ (.int .i64 X.num)).setCell ⟨w.heap.size + 1,4,none⟩ (.string X.text)).setCell ⟨w.heap.size + 1,5,none⟩ (.slice x1 X.kids.length x2)).setCell ⟨w.heap.size + 1,6,none⟩ (.slice x3 X.keys.length x4)).setCell ⟨w.heap.size + 1,7,none⟩ (.slice x5 X.ents.length x6)).setCell ⟨w.heap.size + 1,8,none⟩ (.slice x7 X.labels.length x8)) = w5 at *
        simp at hB5
        obtain ⟨⟨g0,g1,g2,g3⟩,⟨g4,g5,g6,g7⟩,g8⟩:=t1k hB5
        go_wp2_with (with_reducible refine wpList_store_row rfl 55 (.tmp 6) (.tmp 29) rfl _ _ rfl rfl _ _ hA5 (by kernel_rfl) (by kernel_rfl) (by kernel_rfl) ?_)
        refine bodyPost_ret (results_cell_row rfl _ _ w.heap.size 55 _ (0,0) _ rfl (setRow_heap _ _ _ _ _ _ hA5) rfl rfl (by kernel_rfl)) rfl ?_
        obtain ⟨pz,cz,ez,hrw⟩:=t1o (t1q Ho5.out (t1g _)) HcE.out (by omega)
        injection ez with ez1 _ ez3
        subst ez1 ez3
        exact ⟨_,.mk A false X,max d dv,rfl,tba ⟨pa,ca,_,rfl,hrw,HXE.out⟩ HEA.out HEL.out _,by rw [t5e];simp only [EE.parts,EE.args,EE.fails,EE.res,Bool.false_eq_true,if_false,List.map_append,List.sum_append,List.map_cons,List.map_nil,List.sum_cons,List.sum_nil];have:=t2l HN.out;have:=Nat.mul_le_mul_right M (show A.length ≤ 2 by omega);have:=Hq.out;omega,by show A.length ≤ 2;omega,H5.out.row (Nat.le_refl _) Hb1.out _⟩
      · have HB3:=zH ((Hs3.out.block hlBr Hb2.out).trans HBr.out)
        have hl3 : w.heap.size + 2 ≤ w3.heap.size:=Nat.le_trans hsz2 Hs3.out.size
        go_upto_region 9 with (go_at_call 12;refine (HV.out w3 H3.out.src).mono ?_;rintro e w4 ⟨v4,X,rfl,hx,hq,hs⟩;obtain ⟨dv,cs,rfl,hx⟩:=hx;obtain ⟨x1,x2,x3,x4,x5,x6,x7,x8,rfl⟩:=hx.seven;have HX:=zH hx;have Hq:=zH hq;have Hs4:=zH hs;have hB4:=(hs.block (t0a HB3.out) Hb2.out).trans HB3.out;have HB4:=zH hB4;have hz1 : ∀ i,w4.frozen? ⟨w.heap.size + 1,i,none⟩ = false:=(fun i=>by simp [World.frozen?,hB4]);clear g0 g1 g2 g3 g4 g5 g6 g7 g8;obtain ⟨⟨g0,g1,g2,g3⟩,⟨g4,g5,g6,g7⟩,g8⟩:=t1k hB4;clear hx hq hs hB4)
        have HU:=zH (Upd.set (i:=8) (v:=.slice x7 X.labels.length x8) (Upd.set (i:=7) (v:=.slice x5 X.ents.length x6) (Upd.set (i:=6) (v:=.slice x3 X.keys.length x4) (Upd.set (i:=5) (v:=.slice x1 X.kids.length x2) (Upd.set (i:=4) (v:=.string X.text) (Upd.set (i:=3) (v:=.int .i64 X.num) (Upd.set (i:=2) (v:=.int .i64 X.kind) (Upd.refl HB4.out))))))))
        have hB5:=HU.out.blk
        have hA5:=(HU.out.other w.heap.size (by omega)).trans ((Hs4.out.block (by omega) Hb1.out).trans ((Hs3.out.block hlAr Hb1.out).trans HAr.out))
        have Ho5:=zH (t1r (Hs4.out.owns (Hs3.out.owns Ho.out (by omega)) (by omega)) HU.out (by omega))
        have HcE:=zH (show Ch 7 (VS (we (lo (w.heap.size + 2)) (((((((w4.setCell ⟨w.heap.size + 1,2,none⟩ (.int .i64 X.kind)).setCell ⟨w.heap.size + 1,3,none⟩ (.int .i64 X.num)).setCell ⟨w.heap.size + 1,4,none⟩ (.string X.text)).setCell ⟨w.heap.size + 1,5,none⟩ (.slice x1 X.kids.length x2)).setCell ⟨w.heap.size + 1,6,none⟩ (.slice x3 X.keys.length x4)).setCell ⟨w.heap.size + 1,7,none⟩ (.slice x5 X.ents.length x6)).setCell ⟨w.heap.size + 1,8,none⟩ (.slice x7 X.labels.length x8))) (max d dv)) A xs from Hc.out.mono fun x cs _ h=>(((((h.below (by rw [t0j];exact Hs3.out.we (aE_b (by omega)))).below (by rw [t0j];exact Hs4.out.we (aE_b (by omega)))).below (by rw [t0j];exact t1n HU.out (aE_b (by omega)))).sub (aE_lo _ _ _ _)).up (Nat.le_max_left _ _)))
        have HXE:=zH (show VS (we (lo (w.heap.size + 2)) (((((((w4.setCell ⟨w.heap.size + 1,2,none⟩ (.int .i64 X.kind)).setCell ⟨w.heap.size + 1,3,none⟩ (.int .i64 X.num)).setCell ⟨w.heap.size + 1,4,none⟩ (.string X.text)).setCell ⟨w.heap.size + 1,5,none⟩ (.slice x1 X.kids.length x2)).setCell ⟨w.heap.size + 1,6,none⟩ (.slice x3 X.keys.length x4)).setCell ⟨w.heap.size + 1,7,none⟩ (.slice x5 X.ents.length x6)).setCell ⟨w.heap.size + 1,8,none⟩ (.slice x7 X.labels.length x8))) (max d dv) X [.int .i64 X.kind,.int .i64 X.num,.string X.text,.slice x1 X.kids.length x2,.slice x3 X.keys.length x4,.slice x5 X.ents.length x6,.slice x7 X.labels.length x8] from ((HX.out.sub (t1m w4 hl3)).below (by rw [t0j];exact t1n HU.out HEB.out)).up (Nat.le_max_right _ _))
        have H5:=zH ((H3.out.trans Hs4.out).app (HU.out.below (B:=w.heap.size) (by omega)))
        clear hz1 g0 g1 g2 g3 g4 g5 g6 g7 g8
        generalize (((((((w4.setCell ⟨w.heap.size + 1,2,none⟩ (.int .i64 X.kind)).setCell ⟨w.heap.size + 1,3,none⟩ (.int .i64 X.num)).setCell ⟨w.heap.size + 1,4,none⟩ (.string X.text)).setCell ⟨w.heap.size + 1,5,none⟩ (.slice x1 X.kids.length x2)).setCell ⟨w.heap.size + 1,6,none⟩ (.slice x3 X.keys.length x4)).setCell ⟨w.heap.size + 1,7,none⟩ (.slice x5 X.ents.length x6)).setCell ⟨w.heap.size + 1,8,none⟩ (.slice x7 X.labels.length x8)) = w5 at *
        simp at hB5
        obtain ⟨⟨g0,g1,g2,g3⟩,⟨g4,g5,g6,g7⟩,g8⟩:=t1k hB5
        go_wp2_with (with_reducible refine wpList_store_row rfl 55 (.tmp 6) (.tmp 29) rfl _ _ rfl rfl _ _ hA5 (by kernel_rfl) (by kernel_rfl) (by kernel_rfl) ?_)
        refine bodyPost_ret (results_cell_row rfl _ _ w.heap.size 55 _ (0,0) _ rfl (setRow_heap _ _ _ _ _ _ hA5) rfl rfl (by kernel_rfl)) rfl ?_
        obtain ⟨pz,cz,ez,hrw⟩:=t1o (t1q Ho5.out (t1g _)) HcE.out (by omega)
        injection ez with ez1 _ ez3
        subst ez1 ez3
        exact ⟨_,.mk A false X,max d dv,rfl,tba ⟨pa,ca,_,rfl,hrw,HXE.out⟩ HEA.out HEL.out _,by rw [t5e];simp only [EE.parts,EE.args,EE.fails,EE.res,Bool.false_eq_true,if_false,List.map_append,List.sum_append,List.map_cons,List.map_nil,List.sum_cons,List.sum_nil];have:=t2l HN.out;have:=Nat.mul_le_mul_right M (show A.length ≤ 2 by omega);have:=Hq.out;omega,by show A.length ≤ 2;omega,H5.out.row (Nat.le_refl _) Hb1.out _⟩
end Go.Proofs.YtjgldaaofdpcgaaGreat
