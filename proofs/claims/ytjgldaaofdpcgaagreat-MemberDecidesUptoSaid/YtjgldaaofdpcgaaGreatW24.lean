/- Walks and plain facts for the laws of membership, for all values and types that the heap holds (texts Z9). -/
import Derived.Test.YtjgldaaofdpcgaaGreatW03
import Derived.Test.YtjgldaaofdpcgaaGreatW23
set_option linter.unusedVariables false
set_option linter.unusedSimpArgs false
namespace Go.Proofs.YtjgldaaofdpcgaaGreat
open Go.RowKit Go.Ident
set_option maxRecDepth 100000
theorem t5u {w w' : World} {B d : Nat} {V : VV} {cs : List Value} (hb : Below w.heap.size w w') (h : VS (we (lo B) w) d V cs) : VS (we (lo B) w') d V cs:=h.below (by rw [t0j];exact t1l hb)
theorem tbt {S : SD} {wq w5 w7 : World} {B d dv : Nat} {o : Obj} {av v7 u : Value} {A : List EE} {xs cs : List Value} {X : EE} (hc : Ch 9 (ES (we (aE B av u) wq) d) A xs) (hs : SR S wq w5) (hSb : S.b < B) (hx : ES (we (lo wq.heap.size) w5) dv X cs)
    (hold : Old (aE B av u) wq.heap.size) (hf : Fr [] av v7 (w5.alloc o) w7) (hl : cs.length = 9) : Ch 9 (ES (we (aE B v7 u) w7) (max d dv)) (A ++ [X]) (xs ++ cs):=by
  have hal : Below (we (aE B av u) w5).heap.size (we (aE B av u) w5) (we (aE B av u) (w5.alloc o)):=by rw [t0j];exact t1l ((Below.refl _ _).alloc (Nat.le_refl _) _)
  have h1 : Ch 9 (ES (we (aE B v7 u) w7) (max d dv)) A xs:=hc.mono fun x cs _ h=>((((h.below (by rw [t0j];exact hs.we (aE_b hSb))).below hal).sub (t4g hf)).up (Nat.le_max_left _ _))
  have h2 : ES (we (aE B v7 u) w7) (max d dv) X cs:=((((hx.sub (t4f w5 hold)).below hal).sub (t4g hf)).up (Nat.le_max_right _ _))
  exact h1.append (Ch.single hl h2)
theorem tdt (x : EE) : ∀ l : List EE,((insE x l).map EE.nodes).sum ≤ (l.map EE.nodes).sum + x.nodes
  | []=>by simp [insE]
  | y :: r=>by
    unfold insE
    split
    · have:=tdt x r;simp;omega
    · split <;> simp <;> omega
theorem th0 (l : List EE) : ((entsE l).map EE.nodes).sum ≤ (l.map EE.nodes).sum:=by
  have key : ∀ (l out : List EE),((l.foldl (fun out x=>insE x out) out).map EE.nodes).sum ≤ (out.map EE.nodes).sum + (l.map EE.nodes).sum:=by
    intro l
    induction l with
    | nil=>intro out;simp
    | cons x r ih=>intro out;have h1:=ih (insE x out);have h2:=tdt x out;simp only [List.foldl_cons,List.map_cons,List.sum_cons];omega
  have:=key l []
  simpa [entsE] using this
theorem tbb : ∀ {l : List EE} {N : Nat},(∀ x ∈ l,x.nodes ≤ N) → (l.map EE.nodes).sum ≤ l.length * N
  | [],N,_=>by simp
  | x :: r,N,h=>by
    have h1:=h x (by simp)
    have h2:=tbb (l:=r) (N:=N) fun y hy=>h y (by simp [hy])
    simp only [List.map_cons,List.sum_cons,List.length_cons,Nat.add_mul,Nat.one_mul]
    omega
theorem tca {n : Int} {l : List EE} {N k : Nat} (h : ∀ x ∈ l,x.nodes ≤ N) (hk : l.length ≤ k) : (mkF n l).1.nodes ≤ 1 + k * N:=by
  unfold mkF
  split
  · show VV.nodes _ ≤ _
    rw [VV.nodes,t5l]
    have h1:=th0 l
    have h2:=tbb h
    have h3:=Nat.mul_le_mul_right N hk
    simp only [nodesVs]
    omega
  · exact Nat.le_trans (t4y (n:=0)) (by omega)
set_option maxHeartbeats 64000000 in
theorem tbc (S : SD) (h : Int) (M : Nat) (hM : 1 ≤ M) (hh : h ≤ 9223372036854775807) (hv1 : 1 < h → GB M 12 S (h - 1)) (hv2 : 2 < h → GB M 12 S (h - 2)) : GB (10 * M) 26 S h:=by
  intro w hS
  have HV1:=zH hv1;have HV2:=zH hv2
  have Hb:=zH (show w.heap.size ≠ S.b by have:=hS.lt;omega)
  have hltS:=hS.lt
  have Ha:=zH (SR.alloc hS (.cells #[.int .i64 0,.int .i64 0,.string ⟨#[]⟩,.slice none 0 0,.slice none 0 0,.slice none 0 0,.slice none 0 0] 28))
  have Hn:=zH (heap_alloc_new w (.cells #[.int .i64 0,.int .i64 0,.string ⟨#[]⟩,.slice none 0 0,.slice none 0 0,.slice none 0 0,.slice none 0 0] 28))
  have HEx:=zH (show lo (w.heap.size + 1) w.heap.size = true by simp [lo])
  have HEl:=zH (show ∀ k,k < w.heap.size → lo (w.heap.size + 1) k = true from fun k hk=>by simp [lo];omega)
  clear hS hv1 hv2
  go_enter Tryz.func26,Tryz.ntmps26
  go_upto_region 1 with fail
  generalize w.alloc (.cells #[.int .i64 0,.int .i64 0,.string ⟨#[]⟩,.slice none 0 0,.slice none 0 0,.slice none 0 0,.slice none 0 0] 28) = w1 at *
  by_cases h1h : 1 < h
  rotate_left
  · have d0 : decide (h ≤ 1) = true:=by simp;omega
    go_wp2_with (first
      | (go_at_call 41;refine (t2y S w1 Ha.out.src).mono ?_;rintro e wL ⟨vL,X,rfl,hx,hq,hs⟩;obtain ⟨dv,cs,rfl,hx⟩:=hx;obtain ⟨x1,x2,x3,x4,x5,x6,x7,x8,rfl⟩:=hx.seven;have HX:=zH (hx.sub (t1m wL (show w.heap.size + 1 ≤ w1.heap.size from t0a Hn.out)));have Hq:=zH hq.2.1;have HL:=zH (Ha.out.trans hs);have ZL:=zH ((hs.block (t0a Hn.out) Hb.out).trans Hn.out);clear hx hq hs)
      | (with_reducible refine wpList_store_row rfl 28 (.tmp 4) (.tmp 21) rfl _ _ rfl rfl _ _ ZL.out (by kernel_rfl) (by kernel_rfl) (by kernel_rfl) ?_))
    refine bodyPost_ret (results_cell_row rfl _ _ w.heap.size 28 _ (0,0) _ rfl (setRow_heap _ _ _ _ _ _ ZL.out) rfl rfl (by kernel_rfl)) rfl ?_
    exact ⟨_,_,rfl,t1v ⟨dv,_,rfl,HX.out⟩ HEx.out HEl.out _,(by show X.nodes ≤ 10 * M;have:=Hq.out;omega),HL.out.row (Nat.le_refl _) Hb.out _⟩
  have d0 : decide (h ≤ 1) = false:=by simp;omega
  go_upto_region 4 with (go_at_call 24;refine (t0z S 6 w1 Ha.out.src (by omega)).mono ?_;rintro e w2 ⟨y,rfl,hs,h0,h1,-⟩;have h1:=h1 (by decide);have H2:=zH (Ha.out.trans hs);have Z2:=zH ((hs.block (t0a Hn.out) Hb.out).trans Hn.out);clear hs;rcases (show y = 0 ∨ y = 1 ∨ y = 2 ∨ y = 3 ∨ y = 4 ∨ y = 5 by omega) with rfl | rfl | rfl | rfl | rfl | rfl)
  · go_wp2_with (first
      | (go_at_call 41;refine (t2y S w2 H2.out.src).mono ?_;rintro e wL ⟨vL,X,rfl,hx,hq,hs⟩;obtain ⟨dv,cs,rfl,hx⟩:=hx;obtain ⟨x1,x2,x3,x4,x5,x6,x7,x8,rfl⟩:=hx.seven;have HX:=zH (hx.sub (t1m wL (show w.heap.size + 1 ≤ w2.heap.size from t0a Z2.out)));have Hq:=zH hq.2.1;have HL:=zH (H2.out.trans hs);have ZL:=zH ((hs.block (t0a Z2.out) Hb.out).trans Z2.out);clear hx hq hs)
      | (with_reducible refine wpList_store_row rfl 28 (.tmp 4) (.tmp 123) rfl _ _ rfl rfl _ _ ZL.out (by kernel_rfl) (by kernel_rfl) (by kernel_rfl) ?_))
    refine bodyPost_ret (results_cell_row rfl _ _ w.heap.size 28 _ (0,0) _ rfl (setRow_heap _ _ _ _ _ _ ZL.out) rfl rfl (by kernel_rfl)) rfl ?_
    exact ⟨_,_,rfl,t1v ⟨dv,_,rfl,HX.out⟩ HEx.out HEl.out _,(by show X.nodes ≤ 10 * M;have:=Hq.out;omega),HL.out.row (Nat.le_refl _) Hb.out _⟩
  · have Hv1:=zH (HV1.out h1h)
    go_upto_region 6 with fail
    go_wp2_with (go_at_call 24;refine (t0z S 4 w2 H2.out.src (by omega)).mono ?_;rintro e w3 ⟨y,rfl,hs,h0,h1,-⟩;have h1:=h1 (by decide);have H3:=zH (H2.out.trans hs);have Z3:=zH ((hs.block (t0a Z2.out) Hb.out).trans Z2.out);clear hs;rcases (show y = 0 ∨ y = 1 ∨ y = 2 ∨ y = 3 by omega) with rfl | rfl | rfl | rfl)
    all_goals
      go_loopw [6,5] (fun nv ov wr=>∃ (m : Nat) (l : List VV) (xs : List Value) (d : Nat),nv = .int .i64 (m : Int) ∧ m + l.length ≤ 3 ∧ wr.ownsRow (w.heap.size + 1) 28 7 ov l.length xs ∧ Ch 7 (VS (we (aE (w.heap.size + 1) ov (.slice none 0 0)) wr) d) l xs ∧ (∀ x ∈ l,x.nodes ≤ M) ∧ wr.heap[w.heap.size]? = some (.cells #[.int .i64 0,.int .i64 0,.string ⟨#[]⟩,.slice none 0 0,.slice none 0 0,.slice none 0 0,.slice none 0 0] 28) ∧ SR S w wr) (fun nv _ _=>(intOf nv).toNat)
      case atStart=>first | exact ⟨0,[],[],0,rfl,by simp,World.ownsRow_nil _ _ _ _,Ch.nil,fun x hx=>by simp at hx,Z3.out,H3.out⟩ | exact ⟨1,[],[],0,rfl,by simp,World.ownsRow_nil _ _ _ _,Ch.nil,fun x hx=>by simp at hx,Z3.out,H3.out⟩ | exact ⟨2,[],[],0,rfl,by simp,World.ownsRow_nil _ _ _ _,Ch.nil,fun x hx=>by simp at hx,Z3.out,H3.out⟩ | exact ⟨3,[],[],0,rfl,by simp,World.ownsRow_nil _ _ _ _,Ch.nil,fun x hx=>by simp at hx,Z3.out,H3.out⟩
      case round =>
        obtain ⟨m,l,xs,d,rfl,hm,ho,hc,hN,hZr,hsr⟩:=hrel
        obtain ⟨pa,ca,rfl⟩:=t0r ho
        have Ho:=zH ho;have Hc:=zH hc;have HN:=zH hN;have HZr:=zH hZr;have Hsr:=zH hsr
        have hsz2 : w.heap.size + 1 ≤ wr.heap.size:=t0a hZr
        clear ho hc hN hZr hsr
        by_cases hm0 : 0 < m
        · have d9 : decide (0 < m) = true:=by simp [hm0]
          obtain ⟨wq,hwq⟩ : ∃ wq : World,wq = wr:=⟨_,rfl⟩
          subst hwq
          go_wp2_with (first
            | (go_at_call 12;refine (Hv1.out wq Hsr.out.src).mono ?_;rintro e w5 ⟨v5,X,rfl,hx,hq,hs⟩;obtain ⟨dv,cs,rfl,hx⟩:=hx;obtain ⟨x1,x2,x3,x4,x5,x6,x7,x8,rfl⟩:=hx.seven;have HX:=zH hx;have Hq:=zH hq;have Hs5:=zH hs;have Ho5:=zH (hs.owns Ho.out (by omega));have Hone:=zH hx.one;have hw5 : w.heap.size + 1 ≤ w5.heap.size:=(Nat.le_trans hsz2 hs.size);clear hx hq hs)
            | (at_builtin;(refine t0n rfl (.tmp 32) (.tmp 37) 23 rfl 28 (by kernel_rfl) t1w rfl (by decide) (by decide) (w.heap.size + 1) _ w5.heap.size [.int .i64 X.kind,.int .i64 X.num,.string X.text,.slice x1 X.kids.length x2,.slice x3 X.keys.length x4,.slice x5 X.ents.length x6,.slice x7 X.labels.length x8] (heap_alloc_new w5 _) (Nat.le_trans hw5 (by simp)) rfl Hone.out (.slice pa l.length ca) l.length xs rfl (t0d Ho5.out ((Below.refl _ _).alloc (Nat.le_refl _) _) (Nat.le_refl _)) (by omega) rfl ?_);intro v7 w7 ho7 hf7;have Hf7:=zH hf7;have hb7:=(hf7.below (Nat.le_trans hw5 (by simp)) (by simp) fun g hg=>(Ho5.out.lt g hg).1);have Hb7:=zH (((Below.refl w5.heap.size w5).alloc (Nat.le_refl _) (.cells #[.int .i64 X.kind,.int .i64 X.num,.string X.text,.slice x1 X.kids.length x2,.slice x3 X.keys.length x4,.slice x5 X.ents.length x6,.slice x7 X.labels.length x8] 28)).mono hw5 |>.trans hb7);have Ho7:=zH ho7;clear ho7 hf7 hb7))
          have hcA:=t4z Hc.out Hs5.out (by omega) HX.out (t3g Ho.out (World.ownsRow_nil wq 0 0 0) hsz2) Hf7.out
          refine ⟨⟨m - 1,l ++ [X],xs ++ [.int .i64 X.kind,.int .i64 X.num,.string X.text,.slice x1 X.kids.length x2,.slice x3 X.keys.length x4,.slice x5 X.ents.length x6,.slice x7 X.labels.length x8],max d dv,by first | rfl | (congr 1;omega) | (congr 1),by simp;omega,by rw [List.length_append];exact Ho7.out,hcA,fun x hx=>?_,?_,(Hsr.out.trans Hs5.out).app (Hb7.out.mono (by omega))⟩,by simp [intOf];omega⟩
          · rcases List.mem_append.1 hx with hx | hx
            · exact HN.out x hx
            · rw [List.mem_singleton.1 hx];exact Hq.out
          · exact (Hb7.out.block _ (by omega)).trans ((Hs5.out.block (by omega) Hb.out).trans HZr.out)
        · have d9 : decide (0 < m) = false:=by simp;omega
          have HcE:=Hc.out.mono fun x cs _ h=>h.sub (aE_lo _ _ _ _)
          obtain ⟨pz,cz,ez,hrw⟩:=t1o (t1q Ho.out (t1g _)) HcE (by omega)
          have Hk:=zH (ta6 (lo (w.heap.size + 1)) l wr (.slice pa l.length ca) ((t1g _).mono hsz2) ⟨d,pz,cz,ez,hrw⟩ (by omega))
          clear ez hrw HcE
          go_wp2_with (first
            | (go_at_call 42;refine Hk.out.mono ?_;rintro e wT ⟨vT,rfl,hx,hb⟩;obtain ⟨dv,cs,rfl,hx⟩:=hx;obtain ⟨x1,x2,x3,x4,x5,x6,x7,x8,rfl⟩:=hx.seven;have HX:=zH hx;have HT:=zH (Hsr.out.step hb);have ZT:=zH ((hb.block _ (t0a HZr.out)).trans HZr.out);clear hx hb)
            | (with_reducible refine wpList_store_row rfl 28 (.tmp 4) (.tmp 40) rfl _ _ rfl rfl _ _ ZT.out (by kernel_rfl) (by kernel_rfl) (by kernel_rfl) ?_))
          refine bodyPost_ret (results_cell_row rfl _ _ w.heap.size 28 _ (0,0) _ rfl (setRow_heap _ _ _ _ _ _ ZT.out) rfl rfl (by kernel_rfl)) rfl ?_
          exact ⟨_,_,rfl,t1v ⟨dv,_,rfl,HX.out⟩ HEx.out HEl.out _,(by show VV.nodes _ ≤ 10 * M;rw [VV.nodes,t2b];have:=t2l HN.out;have:=Nat.mul_le_mul_right M (show l.length ≤ 3 by omega);simp only [nodesEs];omega),HT.out.row (Nat.le_refl _) Hb.out _⟩
  · have Hv1:=zH (HV1.out h1h)
    go_upto_region 13 with (go_at_call 43;refine (t3f w2).mono ?_;rintro e w3 ⟨rfl,hb⟩;have H3:=zH (H2.out.step hb);have Z3:=zH ((hb.block _ (t0a Z2.out)).trans Z2.out);clear hb)
    have hB4:=heap_alloc_new w3 (.cells #[.int .i64 5,.int .i64 0,.string ⟨#[]⟩,.slice none 0 0,.slice none 0 0,.slice none 0 0,.slice none 0 0] 28)
    have hb4 : Below w3.heap.size w3 (w3.alloc (.cells #[.int .i64 5,.int .i64 0,.string ⟨#[]⟩,.slice none 0 0,.slice none 0 0,.slice none 0 0,.slice none 0 0] 28)):=(Below.refl _ _).alloc (Nat.le_refl _) _
    generalize w3.alloc (.cells #[.int .i64 5,.int .i64 0,.string ⟨#[]⟩,.slice none 0 0,.slice none 0 0,.slice none 0 0,.slice none 0 0] 28) = w4 at *
    have HB4:=zH hB4;have H4:=zH (H3.out.step hb4);have Z4:=zH ((hb4.block _ (t0a Z3.out)).trans Z3.out)
    have Hbw:=zH (show w.heap.size < w3.heap.size from t0a Z3.out)
    have Hbt:=zH (show w3.heap.size ≠ S.b from by have:=Hbw.out;omega)
    clear hB4 hb4
    generalize w3.heap.size = bt at *
    have HN4:=zH (show ∀ wx,VS (we (ex (lo (w.heap.size + 1)) bt) wx) 1 (VV.mk 5 0 t0u [] [] [] []) [.int .i64 5,.int .i64 0,.string ⟨#[]⟩,.slice none 0 0,.slice none 0 0,.slice none 0 0,.slice none 0 0] from fun wx=>by obtain ⟨d,cs,e,h⟩:=vw0 (we (ex (lo (w.heap.size + 1)) bt) wx) 5 0 ⟨#[]⟩;exact ⟨none,0,none,0,none,0,none,0,rfl,Rw.nil _ _ _ _ _,Rw.nil _ _ _ _ _,Rw.nil _ _ _ _ _,Rw.nil _ _ _ _ _⟩)
    have HTn:=zH (show (VV.mk 5 0 t0u [] [] [] []).nodes ≤ M + 2 by simp [VV.nodes,nodesVs,nodesEs])
    by_cases h2h : 2 < h
    rotate_left
    · have d1 : decide (2 < h) = false:=by simp;omega
      go_upto_region 15 with fail
      have LBT:=zH (t0a HB4.out)
      go_upto_region 16 with (go_at_call 27;refine (t6k S w4 H4.out.src).mono ?_;rintro e wl ⟨vL,lL,rfl,hl,-,hs⟩;obtain ⟨pL,cL,eL,-⟩:=(id hl);subst eL;have HlL:=zH hl;have HsL:=zH hs;have HL:=zH (H4.out.trans hs);have ZL:=zH ((hs.block (t0a Z4.out) Hb.out).trans Z4.out);have hBL:=(hs.block (t0a HB4.out) Hbt.out).trans HB4.out;have HBL:=zH hBL;have hz6 : wl.cell? ⟨bt,6,none⟩ = some (.slice none 0 0):=(by simp [World.cell?,hBL]);have hz7 : wl.frozen? ⟨bt,6,none⟩ = false:=(by simp [World.frozen?,hBL]);clear hl hs hBL)
      have HUL:=zH (Upd.set (i:=6) (v:=.slice pL lL.length cL) (Upd.refl HBL.out))
      have hBm:=HUL.out.blk
      have holdT : Old (ex (lo (w.heap.size + 1)) bt) w4.heap.size:=t3e ((t1g _).mono (t0a Z4.out)) LBT.out
      have HTL:=zH (show VW (we (ex (lo (w.heap.size + 1)) bt) (wl.setCell ⟨bt,6,none⟩ (.slice pL lL.length cL))) (.agg #[.int .i64 5,.int .i64 0,.string ⟨#[]⟩,.slice none 0 0,.slice none 0 0,.slice none 0 0,.slice pL lL.length cL]) ((VV.mk 5 0 t0u [] [] [] []).lab lL) from t7s (((HN4.out w4).below (by rw [t0j];exact HsL.out.we (by simp [ex,lo];omega))).below (by rw [t0j];exact t1n HUL.out (by simp [ex]))) ((HlL.out.sub (t4f wl holdT)).below (by rw [t0j];exact t1n HUL.out (by simp [ex]))))
      have Hm:=zH (HL.out.app (HUL.out.below (B:=w.heap.size) (by have:=Hbw.out;omega)))
      have Zm:=zH ((HUL.out.other w.heap.size (by have:=Hbw.out;omega)).trans ZL.out)
      clear hz6 hz7 holdT
      generalize wl.setCell ⟨bt,6,none⟩ (.slice pL lL.length cL) = wm at *
      simp at hBm
      have HBm:=zH hBm
      obtain ⟨⟨f0,f1,f2,f3⟩,f4,f5,f6⟩:=t0f hBm
      have YT:=zH (show wm.drew.cell? ⟨bt,0,none⟩ = _ from f0)
      have Hmd:=zH Hm.out.src.drew
      have hlm:=t0a hBm
      have Hold:=zH (show Old (ex (lo (w.heap.size + 1)) bt) wm.heap.size from t3e ((t1g _).mono (t0a Zm.out)) hlm)
      clear hBm
      go_wp2_with (first
        | ((with_reducible refine Lex.t0w ?_);refine fE (by repeat first | exact LexK.t0t | refine LexK.t0o rfl ?_ | refine LexK.t0p (by decide +kernel) ?_ | refine LexK.t0c rfl (Eq.refl _) YT.out ?_) ?_)
        | ((with_reducible refine Lex.t0q ?_);refine LexK.t0h (fun x=>x = bt) (by kernel_rfl) (by decide +kernel) ?_)
        | (with_reducible first | refine qH ?_ | refine LexK.t0s ?_ | refine LexK.t0v ?_)
        | ((with_reducible refine Lex.t1b ?_);first | (refine LexK.t0e hexV.out ?_) | (refine LexK.t0e hexC.out ?_) | (refine LexK.t0e (LexK.Ext.alloc _ _) ?_) | (refine LexK.t0e (LexK.Ext.refl _) ?_))
        | (go_at_call 12;refine (Hv1.out wm.drew Hmd.out).mono ?_;rintro e wV ⟨vV,X,rfl,hx,hq,hs⟩;obtain ⟨dv,cs,rfl,hx⟩:=hx;obtain ⟨x1,x2,x3,x4,x5,x6,x7,x8,rfl⟩:=hx.seven;have HX:=zH hx;have Hq:=zH hq;have HsV:=zH hs;have hs2:=((SR.refl Hm.out.src).drew.trans hs);have hexV:=zH (t5t hs Hbt.out hlm);have HVs:=zH (Hm.out.drew.trans hs);have ZV:=zH ((hs.block (t0a Zm.out) Hb.out).trans Zm.out);have hBV:=(hs.block hlm Hbt.out).trans HBm.out;obtain ⟨⟨r0,r1,r2,r3⟩,r4,r5,r6⟩:=t0f hBV;have HXV:=zH (hx.sub (t4f wV Hold.out));have HTV:=zH (HTL.out.below (show Below (we (ex (lo (w.heap.size + 1)) bt) wm).heap.size (we (ex (lo (w.heap.size + 1)) bt) wm) (we (ex (lo (w.heap.size + 1)) bt) wV) from (by rw [t0j];exact hs2.we (by simp [ex,lo];omega))));clear hBV hs2;clear hx hq hs)
        | (go_at_call 44;refine (t6j (ex (lo (w.heap.size + 1)) bt) X ((VV.mk 5 0 t0u [] [] [] []).lab lL) wV _ _ (Hold.out.mono HsV.out.size) ⟨dv,_,rfl,HXV.out⟩ HTV.out).mono ?_;rintro e wC ⟨vC,rfl,hc,hb⟩;obtain ⟨C,hCeq⟩ : ∃ C,C = VV.mk 7 0 t0u [X,(VV.mk 5 0 t0u [] [] [] []).lab lL] [] [] []:=⟨_,rfl⟩;rw [← hCeq] at hc;have HCeq:=zH hCeq;clear hCeq;obtain ⟨dC,cC,rfl,hc⟩:=hc;obtain ⟨c1,c2,c3,c4,c5,c6,c7,c8,rfl⟩:=hc.seven;have HCV:=zH hc;have hexC:=zH (t7t (b:=bt) hb (Nat.lt_of_lt_of_le hlm HsV.out.size));have HC:=zH (HVs.out.step hb);have hZC:=(hb.block _ (t0a ZV.out)).trans ZV.out;have HZC:=zH hZC;have hzf : ∀ i,wC.frozen? ⟨w.heap.size,i,none⟩ = false:=(fun i=>by simp [World.frozen?,hZC]);obtain ⟨⟨u0,u1,u2,u3⟩,u4,u5,u6⟩:=t0f hZC;clear hc hb hZC))
      have HU:=(Upd.set (i:=6) (v:=.slice c7 C.labels.length c8) (Upd.set (i:=5) (v:=.slice c5 C.ents.length c6) (Upd.set (i:=4) (v:=.slice c3 C.keys.length c4) (Upd.set (i:=3) (v:=.slice c1 C.kids.length c2) (Upd.set (i:=2) (v:=.string C.text) (Upd.set (i:=1) (v:=.int .i64 C.num) (Upd.set (i:=0) (v:=.int .i64 C.kind) (Upd.refl HZC.out))))))))
      have hend : ((((((((wC.setCell ⟨w.heap.size,0,none⟩ (.int .i64 C.kind)).setCell ⟨w.heap.size,1,none⟩ (.int .i64 C.num)).setCell ⟨w.heap.size,2,none⟩ (.string C.text)).setCell ⟨w.heap.size,3,none⟩ (.slice c1 C.kids.length c2)).setCell ⟨w.heap.size,4,none⟩ (.slice c3 C.keys.length c4)).setCell ⟨w.heap.size,5,none⟩ (.slice c5 C.ents.length c6)).setCell ⟨w.heap.size,6,none⟩ (.slice c7 C.labels.length c8))).heap[w.heap.size]? = some (.cells #[.int .i64 C.kind,.int .i64 C.num,.string C.text,.slice c1 C.kids.length c2,.slice c3 C.keys.length c4,.slice c5 C.ents.length c6,.slice c7 C.labels.length c8] 28):=by have:=HU.blk;simpa using this
      refine bodyPost_ret (results_cell_row rfl _ _ w.heap.size 28 _ (0,0) _ rfl hend rfl rfl (by kernel_rfl)) rfl ?_
      have hvw : VW (we (ex (lo (w.heap.size + 1)) bt) wC) (.agg #[.int .i64 C.kind,.int .i64 C.num,.string C.text,.slice c1 C.kids.length c2,.slice c3 C.keys.length c4,.slice c5 C.ents.length c6,.slice c7 C.labels.length c8]) C:=⟨dC,_,rfl,HCV.out⟩
      refine ⟨_,C,rfl,(hvw.below (by rw [t0j];exact t1n HU (by simp [ex,lo]))).sub (t2r _ fun k hk=>by simp [lo] at hk;simp [ex,lo];omega),?_,HC.out.app (HU.below (Nat.le_refl _))⟩
      show C.nodes ≤ 10 * M
      have e1 : C.nodes = 1 + (X.nodes + (VV.mk 5 0 t0u [] [] [] []).nodes):=by rw [HCeq.out,VV.nodes,t2b];simp [nodesEs,t5g]
      have e2:=Hq.out
      have e3:=HTn.out
      omega
    have d1 : decide (2 < h) = true:=by simp [h2h]
    have Hv2:=zH (HV2.out h2h)
    go_upto_region 14 with (go_at_call 24;refine (t0z S 2 w4 H4.out.src (by omega)).mono ?_;rintro e w5 ⟨y,rfl,hs,h0,h1,-⟩;have h1:=h1 (by decide);have H5:=zH (H4.out.trans hs);have Z5:=zH ((hs.block (t0a Z4.out) Hb.out).trans Z4.out);have HB5:=zH ((hs.block (t0a HB4.out) Hbt.out).trans HB4.out);clear hs;rcases (show y = 0 ∨ y = 1 by omega) with rfl | rfl)
    · go_upto_region 15 with fail
      have LBT:=zH (t0a HB5.out)
      go_upto_region 16 with (go_at_call 27;refine (t6k S w5 H5.out.src).mono ?_;rintro e wl ⟨vL,lL,rfl,hl,-,hs⟩;obtain ⟨pL,cL,eL,-⟩:=(id hl);subst eL;have HlL:=zH hl;have HsL:=zH hs;have HL:=zH (H5.out.trans hs);have ZL:=zH ((hs.block (t0a Z5.out) Hb.out).trans Z5.out);have hBL:=(hs.block (t0a HB5.out) Hbt.out).trans HB5.out;have HBL:=zH hBL;have hz6 : wl.cell? ⟨bt,6,none⟩ = some (.slice none 0 0):=(by simp [World.cell?,hBL]);have hz7 : wl.frozen? ⟨bt,6,none⟩ = false:=(by simp [World.frozen?,hBL]);clear hl hs hBL)
      have HUL:=zH (Upd.set (i:=6) (v:=.slice pL lL.length cL) (Upd.refl HBL.out))
      have hBm:=HUL.out.blk
      have holdT : Old (ex (lo (w.heap.size + 1)) bt) w5.heap.size:=t3e ((t1g _).mono (t0a Z5.out)) LBT.out
      have HTL:=zH (show VW (we (ex (lo (w.heap.size + 1)) bt) (wl.setCell ⟨bt,6,none⟩ (.slice pL lL.length cL))) (.agg #[.int .i64 5,.int .i64 0,.string ⟨#[]⟩,.slice none 0 0,.slice none 0 0,.slice none 0 0,.slice pL lL.length cL]) ((VV.mk 5 0 t0u [] [] [] []).lab lL) from t7s (((HN4.out w5).below (by rw [t0j];exact HsL.out.we (by simp [ex,lo];omega))).below (by rw [t0j];exact t1n HUL.out (by simp [ex]))) ((HlL.out.sub (t4f wl holdT)).below (by rw [t0j];exact t1n HUL.out (by simp [ex]))))
      have Hm:=zH (HL.out.app (HUL.out.below (B:=w.heap.size) (by have:=Hbw.out;omega)))
      have Zm:=zH ((HUL.out.other w.heap.size (by have:=Hbw.out;omega)).trans ZL.out)
      clear hz6 hz7 holdT
      generalize wl.setCell ⟨bt,6,none⟩ (.slice pL lL.length cL) = wm at *
      simp at hBm
      have HBm:=zH hBm
      obtain ⟨⟨f0,f1,f2,f3⟩,f4,f5,f6⟩:=t0f hBm
      have YT:=zH (show wm.drew.cell? ⟨bt,0,none⟩ = _ from f0)
      have Hmd:=zH Hm.out.src.drew
      have hlm:=t0a hBm
      have Hold:=zH (show Old (ex (lo (w.heap.size + 1)) bt) wm.heap.size from t3e ((t1g _).mono (t0a Zm.out)) hlm)
      clear hBm
      go_wp2_with (first
        | ((with_reducible refine Lex.t0w ?_);refine fE (by repeat first | exact LexK.t0t | refine LexK.t0o rfl ?_ | refine LexK.t0p (by decide +kernel) ?_ | refine LexK.t0c rfl (Eq.refl _) YT.out ?_) ?_)
        | ((with_reducible refine Lex.t0q ?_);refine LexK.t0h (fun x=>x = bt) (by kernel_rfl) (by decide +kernel) ?_)
        | (with_reducible first | refine qH ?_ | refine LexK.t0s ?_ | refine LexK.t0v ?_)
        | ((with_reducible refine Lex.t1b ?_);first | (refine LexK.t0e hexV.out ?_) | (refine LexK.t0e hexC.out ?_) | (refine LexK.t0e (LexK.Ext.alloc _ _) ?_) | (refine LexK.t0e (LexK.Ext.refl _) ?_))
        | (go_at_call 12;refine (Hv1.out wm.drew Hmd.out).mono ?_;rintro e wV ⟨vV,X,rfl,hx,hq,hs⟩;obtain ⟨dv,cs,rfl,hx⟩:=hx;obtain ⟨x1,x2,x3,x4,x5,x6,x7,x8,rfl⟩:=hx.seven;have HX:=zH hx;have Hq:=zH hq;have HsV:=zH hs;have hs2:=((SR.refl Hm.out.src).drew.trans hs);have hexV:=zH (t5t hs Hbt.out hlm);have HVs:=zH (Hm.out.drew.trans hs);have ZV:=zH ((hs.block (t0a Zm.out) Hb.out).trans Zm.out);have hBV:=(hs.block hlm Hbt.out).trans HBm.out;obtain ⟨⟨r0,r1,r2,r3⟩,r4,r5,r6⟩:=t0f hBV;have HXV:=zH (hx.sub (t4f wV Hold.out));have HTV:=zH (HTL.out.below (show Below (we (ex (lo (w.heap.size + 1)) bt) wm).heap.size (we (ex (lo (w.heap.size + 1)) bt) wm) (we (ex (lo (w.heap.size + 1)) bt) wV) from (by rw [t0j];exact hs2.we (by simp [ex,lo];omega))));clear hBV hs2;clear hx hq hs)
        | (go_at_call 44;refine (t6j (ex (lo (w.heap.size + 1)) bt) X ((VV.mk 5 0 t0u [] [] [] []).lab lL) wV _ _ (Hold.out.mono HsV.out.size) ⟨dv,_,rfl,HXV.out⟩ HTV.out).mono ?_;rintro e wC ⟨vC,rfl,hc,hb⟩;obtain ⟨C,hCeq⟩ : ∃ C,C = VV.mk 7 0 t0u [X,(VV.mk 5 0 t0u [] [] [] []).lab lL] [] [] []:=⟨_,rfl⟩;rw [← hCeq] at hc;have HCeq:=zH hCeq;clear hCeq;obtain ⟨dC,cC,rfl,hc⟩:=hc;obtain ⟨c1,c2,c3,c4,c5,c6,c7,c8,rfl⟩:=hc.seven;have HCV:=zH hc;have hexC:=zH (t7t (b:=bt) hb (Nat.lt_of_lt_of_le hlm HsV.out.size));have HC:=zH (HVs.out.step hb);have hZC:=(hb.block _ (t0a ZV.out)).trans ZV.out;have HZC:=zH hZC;have hzf : ∀ i,wC.frozen? ⟨w.heap.size,i,none⟩ = false:=(fun i=>by simp [World.frozen?,hZC]);obtain ⟨⟨u0,u1,u2,u3⟩,u4,u5,u6⟩:=t0f hZC;clear hc hb hZC))
      have HU:=(Upd.set (i:=6) (v:=.slice c7 C.labels.length c8) (Upd.set (i:=5) (v:=.slice c5 C.ents.length c6) (Upd.set (i:=4) (v:=.slice c3 C.keys.length c4) (Upd.set (i:=3) (v:=.slice c1 C.kids.length c2) (Upd.set (i:=2) (v:=.string C.text) (Upd.set (i:=1) (v:=.int .i64 C.num) (Upd.set (i:=0) (v:=.int .i64 C.kind) (Upd.refl HZC.out))))))))
      have hend : ((((((((wC.setCell ⟨w.heap.size,0,none⟩ (.int .i64 C.kind)).setCell ⟨w.heap.size,1,none⟩ (.int .i64 C.num)).setCell ⟨w.heap.size,2,none⟩ (.string C.text)).setCell ⟨w.heap.size,3,none⟩ (.slice c1 C.kids.length c2)).setCell ⟨w.heap.size,4,none⟩ (.slice c3 C.keys.length c4)).setCell ⟨w.heap.size,5,none⟩ (.slice c5 C.ents.length c6)).setCell ⟨w.heap.size,6,none⟩ (.slice c7 C.labels.length c8))).heap[w.heap.size]? = some (.cells #[.int .i64 C.kind,.int .i64 C.num,.string C.text,.slice c1 C.kids.length c2,.slice c3 C.keys.length c4,.slice c5 C.ents.length c6,.slice c7 C.labels.length c8] 28):=by have:=HU.blk;simpa using this
      refine bodyPost_ret (results_cell_row rfl _ _ w.heap.size 28 _ (0,0) _ rfl hend rfl rfl (by kernel_rfl)) rfl ?_
      have hvw : VW (we (ex (lo (w.heap.size + 1)) bt) wC) (.agg #[.int .i64 C.kind,.int .i64 C.num,.string C.text,.slice c1 C.kids.length c2,.slice c3 C.keys.length c4,.slice c5 C.ents.length c6,.slice c7 C.labels.length c8]) C:=⟨dC,_,rfl,HCV.out⟩
      refine ⟨_,C,rfl,(hvw.below (by rw [t0j];exact t1n HU (by simp [ex,lo]))).sub (t2r _ fun k hk=>by simp [lo] at hk;simp [ex,lo];omega),?_,HC.out.app (HU.below (Nat.le_refl _))⟩
      show C.nodes ≤ 10 * M
      have e1 : C.nodes = 1 + (X.nodes + (VV.mk 5 0 t0u [] [] [] []).nodes):=by rw [HCeq.out,VV.nodes,t2b];simp [nodesEs,t5g]
      have e2:=Hq.out
      have e3:=HTn.out
      omega
    · have hl5:=t0a HB5.out
      have Hold5:=zH (show Old (ex (lo (w.heap.size + 1)) bt) w5.heap.size from t3e ((t1g _).mono (t0a Z5.out)) hl5)
      go_upto_region 15 with (first
        | (go_at_call 12;refine (Hv2.out w5 H5.out.src).mono ?_;rintro e w6 ⟨v6,X,rfl,hx,hq,hs⟩;obtain ⟨dv,cs,rfl,hx⟩:=hx;obtain ⟨x1,x2,x3,x4,x5,x6,x7,x8,rfl⟩:=hx.seven;have HX:=zH hx;have Hq:=zH hq;have Hs6:=zH hs;have H6:=zH (H5.out.trans hs);have HX6:=zH (hx.sub (t4f w6 Hold5.out));clear hx hq hs)
        | (go_at_call 43;refine (t3f w6).mono ?_;rintro e w7 ⟨rfl,hb⟩;have H7:=zH (H6.out.step hb);have Hb7:=zH hb;clear hb)
        | (go_at_call 44;refine (t6j (ex (lo (w.heap.size + 1)) bt) X (VV.mk 5 0 t0u [] [] [] []) w7 _ _ (Hold5.out.mono (Nat.le_trans Hs6.out.size Hb7.out.size)) ⟨dv,_,rfl,HX6.out.below (by rw [t0j];exact t1l Hb7.out)⟩ (vw0 _ _ _ _)).mono ?_;rintro e w8 ⟨v8,rfl,hc,hb⟩;obtain ⟨T,hTeq⟩ : ∃ T,T = VV.mk 7 0 t0u [X,VV.mk 5 0 t0u [] [] [] []] [] [] []:=⟨_,rfl⟩;rw [← hTeq] at hc;have HTeq:=zH hTeq;clear hTeq;obtain ⟨dT,cT,rfl,hc⟩:=hc;obtain ⟨t1,t2,t3,t4,t5,t6,t7,t8,rfl⟩:=hc.seven;have HT8:=zH hc;have H8:=zH (H7.out.step hb);have HB8:=zH ((hb.block _ (Nat.lt_of_lt_of_le hl5 (Nat.le_trans Hs6.out.size Hb7.out.size))).trans ((Hb7.out.block _ (Nat.lt_of_lt_of_le hl5 Hs6.out.size)).trans ((Hs6.out.block hl5 Hbt.out).trans HB5.out)));have Z8:=zH ((hb.block _ (Nat.lt_of_lt_of_le (t0a Z5.out) (Nat.le_trans Hs6.out.size Hb7.out.size))).trans ((Hb7.out.block _ (Nat.lt_of_lt_of_le (t0a Z5.out) Hs6.out.size)).trans ((Hs6.out.block (t0a Z5.out) Hb.out).trans Z5.out)));clear hc hb)
        | (with_reducible refine wpList_store_row rfl 28 (.tmp 7) (.tmp 56) rfl _ _ rfl rfl _ _ HB8.out (by kernel_rfl) (by kernel_rfl) (by kernel_rfl) ?_))
      have HB9:=zH (setRow_heap w8 bt _ #[.int .i64 T.kind,.int .i64 T.num,.string T.text,.slice t1 T.kids.length t2,.slice t3 T.keys.length t4,.slice t5 T.ents.length t6,.slice t7 T.labels.length t8] _ _ HB8.out)
      have hw9:=fun B=>t4e (E:=ex (lo (w.heap.size + 1)) bt) (x:=bt) (B:=B) (w:=w8) (by simp [ex]) #[.int .i64 T.kind,.int .i64 T.num,.string T.text,.slice t1 T.kids.length t2,.slice t3 T.keys.length t4,.slice t5 T.ents.length t6,.slice t7 T.labels.length t8]
      have HT9:=zH (HT8.out.below (hw9 _))
      have H9:=zH (H8.out.row (by have:=Hbw.out;omega) Hbt.out #[.int .i64 T.kind,.int .i64 T.num,.string T.text,.slice t1 T.kids.length t2,.slice t3 T.keys.length t4,.slice t5 T.ents.length t6,.slice t7 T.labels.length t8])
      have Z9:=zH ((setRow_other w8 bt w.heap.size #[.int .i64 T.kind,.int .i64 T.num,.string T.text,.slice t1 T.kids.length t2,.slice t3 T.keys.length t4,.slice t5 T.ents.length t6,.slice t7 T.labels.length t8] (by have:=Hbw.out;omega)).trans Z8.out)
      have HTn0 : T.nodes ≤ M + 2:=by rw [HTeq.out,VV.nodes,t2b];simp [nodesEs,VV.nodes,nodesVs];have:=Hq.out;omega
      clear HTn
      have HTn:=zH HTn0
      clear HTn0 hw9 HX6 HX Hq
      generalize w8.setRow bt #[.int .i64 T.kind,.int .i64 T.num,.string T.text,.slice t1 T.kids.length t2,.slice t3 T.keys.length t4,.slice t5 T.ents.length t6,.slice t7 T.labels.length t8] = w9 at *
      have LBT:=zH (t0a HB9.out)
      go_upto_region 16 with (go_at_call 27;refine (t6k S w9 H9.out.src).mono ?_;rintro e wl ⟨vL,lL,rfl,hl,-,hs⟩;obtain ⟨pL,cL,eL,-⟩:=(id hl);subst eL;have HlL:=zH hl;have HsL:=zH hs;have HL:=zH (H9.out.trans hs);have ZL:=zH ((hs.block (t0a Z9.out) Hb.out).trans Z9.out);have hBL:=(hs.block (t0a HB9.out) Hbt.out).trans HB9.out;have HBL:=zH hBL;have hz6 : wl.cell? ⟨bt,6,none⟩ = some (.slice t7 T.labels.length t8):=(by simp [World.cell?,hBL]);have hz7 : wl.frozen? ⟨bt,6,none⟩ = false:=(by simp [World.frozen?,hBL]);clear hl hs hBL)
      have HUL:=zH (Upd.set (i:=6) (v:=.slice pL lL.length cL) (Upd.refl HBL.out))
      have hBm:=HUL.out.blk
      have holdT : Old (ex (lo (w.heap.size + 1)) bt) w9.heap.size:=t3e ((t1g _).mono (t0a Z9.out)) LBT.out
      have HTL:=zH (show VW (we (ex (lo (w.heap.size + 1)) bt) (wl.setCell ⟨bt,6,none⟩ (.slice pL lL.length cL))) (.agg #[.int .i64 T.kind,.int .i64 T.num,.string T.text,.slice t1 T.kids.length t2,.slice t3 T.keys.length t4,.slice t5 T.ents.length t6,.slice pL lL.length cL]) ((T).lab lL) from t7s ((HT9.out.below (by rw [t0j];exact HsL.out.we (by simp [ex,lo];omega))).below (by rw [t0j];exact t1n HUL.out (by simp [ex]))) ((HlL.out.sub (t4f wl holdT)).below (by rw [t0j];exact t1n HUL.out (by simp [ex]))))
      have Hm:=zH (HL.out.app (HUL.out.below (B:=w.heap.size) (by have:=Hbw.out;omega)))
      have Zm:=zH ((HUL.out.other w.heap.size (by have:=Hbw.out;omega)).trans ZL.out)
      clear hz6 hz7 holdT
      generalize wl.setCell ⟨bt,6,none⟩ (.slice pL lL.length cL) = wm at *
      simp at hBm
      have HBm:=zH hBm
      obtain ⟨⟨f0,f1,f2,f3⟩,f4,f5,f6⟩:=t0f hBm
      have YT:=zH (show wm.drew.cell? ⟨bt,0,none⟩ = _ from f0)
      have Hmd:=zH Hm.out.src.drew
      have hlm:=t0a hBm
      have Hold:=zH (show Old (ex (lo (w.heap.size + 1)) bt) wm.heap.size from t3e ((t1g _).mono (t0a Zm.out)) hlm)
      clear hBm
      go_wp2_with (first
        | ((with_reducible refine Lex.t0w ?_);refine fE (by repeat first | exact LexK.t0t | refine LexK.t0o rfl ?_ | refine LexK.t0p (by decide +kernel) ?_ | refine LexK.t0c rfl (Eq.refl _) YT.out ?_) ?_)
        | ((with_reducible refine Lex.t0q ?_);refine LexK.t0h (fun x=>x = bt) (by kernel_rfl) (by decide +kernel) ?_)
        | (with_reducible first | refine qH ?_ | refine LexK.t0s ?_ | refine LexK.t0v ?_)
        | ((with_reducible refine Lex.t1b ?_);first | (refine LexK.t0e hexV.out ?_) | (refine LexK.t0e hexC.out ?_) | (refine LexK.t0e (LexK.Ext.alloc _ _) ?_) | (refine LexK.t0e (LexK.Ext.refl _) ?_))
        | (go_at_call 12;refine (Hv1.out wm.drew Hmd.out).mono ?_;rintro e wV ⟨vV,X,rfl,hx,hq,hs⟩;obtain ⟨dv,cs,rfl,hx⟩:=hx;obtain ⟨x1,x2,x3,x4,x5,x6,x7,x8,rfl⟩:=hx.seven;have HX:=zH hx;have Hq:=zH hq;have HsV:=zH hs;have hs2:=((SR.refl Hm.out.src).drew.trans hs);have hexV:=zH (t5t hs Hbt.out hlm);have HVs:=zH (Hm.out.drew.trans hs);have ZV:=zH ((hs.block (t0a Zm.out) Hb.out).trans Zm.out);have hBV:=(hs.block hlm Hbt.out).trans HBm.out;obtain ⟨⟨r0,r1,r2,r3⟩,r4,r5,r6⟩:=t0f hBV;have HXV:=zH (hx.sub (t4f wV Hold.out));have HTV:=zH (HTL.out.below (show Below (we (ex (lo (w.heap.size + 1)) bt) wm).heap.size (we (ex (lo (w.heap.size + 1)) bt) wm) (we (ex (lo (w.heap.size + 1)) bt) wV) from (by rw [t0j];exact hs2.we (by simp [ex,lo];omega))));clear hBV hs2;clear hx hq hs)
        | (go_at_call 44;refine (t6j (ex (lo (w.heap.size + 1)) bt) X ((T).lab lL) wV _ _ (Hold.out.mono HsV.out.size) ⟨dv,_,rfl,HXV.out⟩ HTV.out).mono ?_;rintro e wC ⟨vC,rfl,hc,hb⟩;obtain ⟨C,hCeq⟩ : ∃ C,C = VV.mk 7 0 t0u [X,(T).lab lL] [] [] []:=⟨_,rfl⟩;rw [← hCeq] at hc;have HCeq:=zH hCeq;clear hCeq;obtain ⟨dC,cC,rfl,hc⟩:=hc;obtain ⟨c1,c2,c3,c4,c5,c6,c7,c8,rfl⟩:=hc.seven;have HCV:=zH hc;have hexC:=zH (t7t (b:=bt) hb (Nat.lt_of_lt_of_le hlm HsV.out.size));have HC:=zH (HVs.out.step hb);have hZC:=(hb.block _ (t0a ZV.out)).trans ZV.out;have HZC:=zH hZC;have hzf : ∀ i,wC.frozen? ⟨w.heap.size,i,none⟩ = false:=(fun i=>by simp [World.frozen?,hZC]);obtain ⟨⟨u0,u1,u2,u3⟩,u4,u5,u6⟩:=t0f hZC;clear hc hb hZC))
      have HU:=(Upd.set (i:=6) (v:=.slice c7 C.labels.length c8) (Upd.set (i:=5) (v:=.slice c5 C.ents.length c6) (Upd.set (i:=4) (v:=.slice c3 C.keys.length c4) (Upd.set (i:=3) (v:=.slice c1 C.kids.length c2) (Upd.set (i:=2) (v:=.string C.text) (Upd.set (i:=1) (v:=.int .i64 C.num) (Upd.set (i:=0) (v:=.int .i64 C.kind) (Upd.refl HZC.out))))))))
      have hend : ((((((((wC.setCell ⟨w.heap.size,0,none⟩ (.int .i64 C.kind)).setCell ⟨w.heap.size,1,none⟩ (.int .i64 C.num)).setCell ⟨w.heap.size,2,none⟩ (.string C.text)).setCell ⟨w.heap.size,3,none⟩ (.slice c1 C.kids.length c2)).setCell ⟨w.heap.size,4,none⟩ (.slice c3 C.keys.length c4)).setCell ⟨w.heap.size,5,none⟩ (.slice c5 C.ents.length c6)).setCell ⟨w.heap.size,6,none⟩ (.slice c7 C.labels.length c8))).heap[w.heap.size]? = some (.cells #[.int .i64 C.kind,.int .i64 C.num,.string C.text,.slice c1 C.kids.length c2,.slice c3 C.keys.length c4,.slice c5 C.ents.length c6,.slice c7 C.labels.length c8] 28):=by have:=HU.blk;simpa using this
      refine bodyPost_ret (results_cell_row rfl _ _ w.heap.size 28 _ (0,0) _ rfl hend rfl rfl (by kernel_rfl)) rfl ?_
      have hvw : VW (we (ex (lo (w.heap.size + 1)) bt) wC) (.agg #[.int .i64 C.kind,.int .i64 C.num,.string C.text,.slice c1 C.kids.length c2,.slice c3 C.keys.length c4,.slice c5 C.ents.length c6,.slice c7 C.labels.length c8]) C:=⟨dC,_,rfl,HCV.out⟩
      refine ⟨_,C,rfl,(hvw.below (by rw [t0j];exact t1n HU (by simp [ex,lo]))).sub (t2r _ fun k hk=>by simp [lo] at hk;simp [ex,lo];omega),?_,HC.out.app (HU.below (Nat.le_refl _))⟩
      show C.nodes ≤ 10 * M
      have e1 : C.nodes = 1 + (X.nodes + (T).nodes):=by rw [HCeq.out,VV.nodes,t2b];simp [nodesEs,t5g]
      have e2:=Hq.out
      have e3:=HTn.out
      omega
  · have Hv1:=zH (HV1.out h1h)
    go_upto_region 20 with fail
    go_wp2_with (go_at_call 24;refine (t0z S 3 w2 H2.out.src (by omega)).mono ?_;rintro e w3 ⟨y,rfl,hs,h0,h1,-⟩;have h1:=h1 (by decide);have H3:=zH (H2.out.trans hs);have Z3:=zH ((hs.block (t0a Z2.out) Hb.out).trans Z2.out);clear hs;rcases (show y = 0 ∨ y = 1 ∨ y = 2 by omega) with rfl | rfl | rfl)
    all_goals
      go_loopw [10,8,9] (fun nv yv ov wr=>∃ (m : Nat) (Y : List KK) (ys : List Value) (l : List VV) (xs : List Value) (d : Nat),nv = .int .i64 (m : Int) ∧ m + l.length ≤ 2 ∧ Y.length = l.length ∧ wr.ownsRow (w.heap.size + 1) 73 2 yv Y.length ys ∧ Ch 2 KC Y ys ∧ wr.ownsRow (w.heap.size + 1) 28 7 ov l.length xs ∧ Ch 7 (VS (we (aE (w.heap.size + 1) ov yv) wr) d) l xs ∧ (∀ x ∈ l,x.nodes ≤ M) ∧ wr.heap[w.heap.size]? = some (.cells #[.int .i64 0,.int .i64 0,.string ⟨#[]⟩,.slice none 0 0,.slice none 0 0,.slice none 0 0,.slice none 0 0] 28) ∧ SR S w wr) (fun nv _ _ _=>(intOf nv).toNat)
      case atStart=>first | exact ⟨0,[],[],[],[],0,rfl,by simp,rfl,World.ownsRow_nil _ _ _ _,Ch.nil,World.ownsRow_nil _ _ _ _,Ch.nil,fun x hx=>by simp at hx,Z3.out,H3.out⟩ | exact ⟨1,[],[],[],[],0,rfl,by simp,rfl,World.ownsRow_nil _ _ _ _,Ch.nil,World.ownsRow_nil _ _ _ _,Ch.nil,fun x hx=>by simp at hx,Z3.out,H3.out⟩ | exact ⟨2,[],[],[],[],0,rfl,by simp,rfl,World.ownsRow_nil _ _ _ _,Ch.nil,World.ownsRow_nil _ _ _ _,Ch.nil,fun x hx=>by simp at hx,Z3.out,H3.out⟩
      case round =>
        obtain ⟨m,Y,ys,l,xs,d,rfl,hm,hYl,hoY,hcY,ho,hc,hN,hZr,hsr⟩:=hrel
        obtain ⟨pk,ck,rfl⟩:=t0r ho
        obtain ⟨py,cy,rfl⟩:=t0r hoY
        have Ho:=zH ho;have Hc:=zH hc;have HN:=zH hN;have HZr:=zH hZr;have Hsr:=zH hsr;have HoY:=zH hoY;have HcY:=zH hcY;have HYl:=zH hYl
        have hYl2 : Y.length ≤ 2:=by omega
        have hsz2 : w.heap.size + 1 ≤ wr.heap.size:=t0a hZr
        clear ho hc hN hZr hsr hoY hcY hYl
        by_cases hm0 : 0 < m
        · have d9 : decide (0 < m) = true:=by simp [hm0]
          obtain ⟨wq,hwq⟩ : ∃ wq : World,wq = wr:=⟨_,rfl⟩
          subst hwq
          go_wp2_with (first
            | (go_at_call 45;refine (thx S wq Hsr.out.src).mono ?_;rintro e w5 ⟨k,rfl,hs⟩;have Hs5:=zH hs;have HoY5:=zH (hs.owns HoY.out (by omega));have HoK5:=zH (hs.owns Ho.out (by omega));have H5:=zH (Hsr.out.trans hs);have Z5:=zH ((hs.block hsz2 Hb.out).trans HZr.out);have hw5 : w.heap.size + 1 ≤ w5.heap.size:=(Nat.le_trans hsz2 hs.size);clear hs)
            | (at_builtin;(refine t0n rfl (.tmp 74) (.tmp 77) 24 rfl 73 (by kernel_rfl) t2z rfl (by decide) (by decide) (w.heap.size + 1) _ w5.heap.size [.int .i64 k.kind,.string k.text] (heap_alloc_new w5 _) (Nat.le_trans hw5 (by simp)) rfl (by intro u hu;simp at hu;rcases hu with rfl | rfl <;> rfl) (.slice py Y.length cy) Y.length ys rfl (t0d HoY5.out ((Below.refl _ _).alloc (Nat.le_refl _) _) (Nat.le_refl _)) (by omega) rfl ?_);intro v6 w6 ho6 hf6;have Hf6:=zH hf6;have hb6:=(hf6.below (Nat.le_trans hw5 (by simp)) (by simp) fun g hg=>(HoY5.out.lt g hg).1);have hal6:=(Below.refl w5.heap.size w5).alloc (Nat.le_refl _) (.cells #[.int .i64 k.kind,.string k.text] 73);have Hb6:=zH ((hal6.mono hw5).trans hb6);obtain ⟨p6,c6,rfl⟩:=t0r ho6;have HoY6:=zH ho6;have HoK6:=zH (t2m (t0d HoK5.out hal6 (Nat.le_refl _)) (t0d HoY5.out hal6 (Nat.le_refl _)) (by decide) hf6);have H6:=zH (H5.out.app (Hb6.out.mono (by omega)));have Z6:=zH ((Hb6.out.block _ (by omega)).trans Z5.out);have hc6 : Ch 7 (VS (we (aE (w.heap.size + 1) (.slice pk l.length ck) (.slice p6 (Y.length + 1) c6)) w6) d) l xs:=(by rw [t3u];exact Hc.out.mono fun x cs _ h=>(((by rw [t3u] at h;exact h.below (by rw [t0j];exact Hs5.out.we (aE_b (by omega))) : VS (we (aE (w.heap.size + 1) (.slice py Y.length cy) (.slice pk l.length ck)) w5) d x cs).below (by rw [t0j];exact t1l hal6)).sub (t4g hf6)));have Hc6:=zH hc6;have hw6 : w.heap.size + 1 ≤ w6.heap.size:=Nat.le_trans hw5 (Nat.le_trans hal6.size hf6.size);clear ho6 hf6 hb6 hal6 hc6)
            | (go_at_call 12;refine (Hv1.out w6 H6.out.src).mono ?_;rintro e w7 ⟨v7,X,rfl,hx,hq,hs⟩;obtain ⟨dv,cs,rfl,hx⟩:=hx;obtain ⟨x1,x2,x3,x4,x5,x6,x7,x8,rfl⟩:=hx.seven;have HX:=zH hx;have Hq:=zH hq;have Hs7:=zH hs;have HoK7:=zH (hs.owns HoK6.out (by omega));have HoY7:=zH (hs.owns HoY6.out (by omega));have Hone:=zH hx.one;have hw7 : w.heap.size + 1 ≤ w7.heap.size:=(Nat.le_trans hw6 hs.size);clear hx hq hs)
            | (at_builtin;(refine t0n rfl (.tmp 79) (.tmp 84) 23 rfl 28 (by kernel_rfl) t1w rfl (by decide) (by decide) (w.heap.size + 1) _ w7.heap.size [.int .i64 X.kind,.int .i64 X.num,.string X.text,.slice x1 X.kids.length x2,.slice x3 X.keys.length x4,.slice x5 X.ents.length x6,.slice x7 X.labels.length x8] (heap_alloc_new w7 _) (Nat.le_trans hw7 (by simp)) rfl Hone.out (.slice pk l.length ck) l.length xs rfl (t0d HoK7.out ((Below.refl _ _).alloc (Nat.le_refl _) _) (Nat.le_refl _)) (by omega) rfl ?_);intro v8 w8 ho8 hf8;have Hf8:=zH hf8;have hb8:=(hf8.below (Nat.le_trans hw7 (by simp)) (by simp) fun g hg=>(HoK7.out.lt g hg).1);have hal8:=(Below.refl w7.heap.size w7).alloc (Nat.le_refl _) (.cells #[.int .i64 X.kind,.int .i64 X.num,.string X.text,.slice x1 X.kids.length x2,.slice x3 X.keys.length x4,.slice x5 X.ents.length x6,.slice x7 X.labels.length x8] 28);have Hb8:=zH ((hal8.mono hw7).trans hb8);have HoK8:=zH ho8;have HoY8:=zH (t2m (t0d HoY7.out hal8 (Nat.le_refl _)) (t0d HoK7.out hal8 (Nat.le_refl _)) (by decide) hf8);clear ho8 hf8 hb8 hal8))
          have hcA:=t4z Hc6.out Hs7.out (by omega) HX.out (t3g HoK6.out HoY6.out hw6) Hf8.out
          refine ⟨⟨m - 1,Y ++ [k],ys ++ [.int .i64 k.kind,.string k.text],l ++ [X],xs ++ [.int .i64 X.kind,.int .i64 X.num,.string X.text,.slice x1 X.kids.length x2,.slice x3 X.keys.length x4,.slice x5 X.ents.length x6,.slice x7 X.labels.length x8],max d dv,by first | rfl | (congr 1;omega) | (congr 1),by simp;omega,by simp [HYl.out],by rw [List.length_append];exact HoY8.out,HcY.out.append (Ch.single (P:=KC) (x:=k) (cs:=[.int .i64 k.kind,.string k.text]) rfl rfl),by rw [List.length_append];exact HoK8.out,hcA,fun x hx=>?_,?_,(H6.out.trans Hs7.out).app (Hb8.out.mono (by omega))⟩,by simp [intOf];omega⟩
          · rcases List.mem_append.1 hx with hx | hx
            · exact HN.out x hx
            · rw [List.mem_singleton.1 hx];exact Hq.out
          · exact (Hb8.out.block _ (by omega)).trans ((Hs7.out.block (by omega) Hb.out).trans Z6.out)
        · have d9 : decide (0 < m) = false:=by simp;omega
          have HcE:=Hc.out.mono fun x cs _ h=>h.sub (aE_lo _ _ _ _)
          obtain ⟨pz,cz,ez,hrw⟩:=t1o (t1q Ho.out (t1g _)) HcE (by omega)
          obtain ⟨pu,cu,eu,hru⟩:=t1o (t1q HoY.out (t1g _)) HcY.out (by omega)
          have Hk:=zH (t7b (lo (w.heap.size + 1)) Y l wr (.slice py Y.length cy) (.slice pk l.length ck) ((t1g _).mono hsz2) ⟨pu,cu,eu,hru⟩ ⟨d,pz,cz,ez,hrw⟩ (by omega))
          clear ez hrw HcE eu hru
          go_upto_region 26 with (go_at_call 46;refine Hk.out.mono ?_;rintro e wT ⟨vT,T,code,rfl,hx,hnT,-,hb⟩;obtain ⟨dv,cs,rfl,hx⟩:=hx;obtain ⟨t1,t2,t3,t4,t5,t6,t7,t8,rfl⟩:=hx.seven;have HX:=zH hx;have HnT:=zH hnT;have HT:=zH (Hsr.out.step hb);have ZT:=zH ((hb.block _ (t0a HZr.out)).trans HZr.out);clear hx hb hnT)
          have hBt:=heap_alloc_new wT (.cells #[.int .i64 T.kind,.int .i64 T.num,.string T.text,.slice t1 T.kids.length t2,.slice t3 T.keys.length t4,.slice t5 T.ents.length t6,.slice t7 T.labels.length t8] 28)
          have hbt : Below wT.heap.size wT (wT.alloc (.cells #[.int .i64 T.kind,.int .i64 T.num,.string T.text,.slice t1 T.kids.length t2,.slice t3 T.keys.length t4,.slice t5 T.ents.length t6,.slice t7 T.labels.length t8] 28)):=(Below.refl _ _).alloc (Nat.le_refl _) _
          generalize wT.alloc (.cells #[.int .i64 T.kind,.int .i64 T.num,.string T.text,.slice t1 T.kids.length t2,.slice t3 T.keys.length t4,.slice t5 T.ents.length t6,.slice t7 T.labels.length t8] 28) = wU at *
          obtain ⟨⟨f0,f1,f2,f3⟩,f4,f5,f6⟩:=t0f hBt
          have HU:=zH (HT.out.step hbt);have ZU:=zH ((hbt.block _ (t0a ZT.out)).trans ZT.out);have HXU:=zH (t5u hbt HX.out)
          have hsU : w.heap.size + 1 ≤ wU.heap.size:=t0a ZU.out
          clear hBt hbt
          by_cases hcode : code = 0
          · have d7 : (code == 0) = true:=by simp [hcode]
            clear hcode
            go_wp2_with (first
            | (with_reducible refine wpList_store_row rfl 28 (.tmp 4) (.tmp 94) rfl _ _ rfl rfl _ _ ZU.out (by kernel_rfl) (by kernel_rfl) (by kernel_rfl) ?_))
            refine bodyPost_ret (results_cell_row rfl _ _ w.heap.size 28 _ (0,0) _ rfl (setRow_heap _ _ _ _ _ _ ZU.out) rfl rfl (by kernel_rfl)) rfl ?_
            exact ⟨_,_,rfl,t1v ⟨dv,_,rfl,HXU.out⟩ HEx.out HEl.out _,(by show T.nodes ≤ 10 * M;have:=HnT.out;have:=t2l HN.out;have:=Nat.mul_le_mul_right M (show l.length ≤ 2 by omega);omega),HU.out.row (Nat.le_refl _) Hb.out _⟩
          · have d7 : (code == 0) = false:=by simp [hcode]
            clear hcode f0 f1 f2 f3 f4 f5 f6
            go_wp2_with (first
              | (go_at_call 41;refine (t2y S wU HU.out.src).mono ?_;rintro e wL ⟨vL,X,rfl,hx,hq,hs⟩;obtain ⟨dv,cs,rfl,hx⟩:=hx;obtain ⟨x1,x2,x3,x4,x5,x6,x7,x8,rfl⟩:=hx.seven;have HX:=zH (hx.sub (t1m wL (show w.heap.size + 1 ≤ wU.heap.size from t0a ZU.out)));have Hq:=zH hq.2.1;have HL:=zH (HU.out.trans hs);have ZL:=zH ((hs.block (t0a ZU.out) Hb.out).trans ZU.out);clear hx hq hs)
              | (with_reducible refine wpList_store_row rfl 28 (.tmp 4) (.tmp 123) rfl _ _ rfl rfl _ _ ZL.out (by kernel_rfl) (by kernel_rfl) (by kernel_rfl) ?_))
            refine bodyPost_ret (results_cell_row rfl _ _ w.heap.size 28 _ (0,0) _ rfl (setRow_heap _ _ _ _ _ _ ZL.out) rfl rfl (by kernel_rfl)) rfl ?_
            exact ⟨_,_,rfl,t1v ⟨dv,_,rfl,HX.out⟩ HEx.out HEl.out _,(by show X.nodes ≤ 10 * M;have:=Hq.out;omega),HL.out.row (Nat.le_refl _) Hb.out _⟩
  · have Hv1:=zH (HV1.out h1h)
    go_upto_region 30 with (go_at_call 24;refine (t0z S 3 w2 H2.out.src (by omega)).mono ?_;rintro e w3 ⟨y,rfl,hs,h0,h1,-⟩;have h1:=h1 (by decide);have H3:=zH (H2.out.trans hs);have Z3:=zH ((hs.block (t0a Z2.out) Hb.out).trans Z2.out);clear hs;obtain ⟨na,rfl⟩ : ∃ na : Nat,y = (na : Int):=⟨y.toNat,by omega⟩;have hna : na ≤ 2:=(by omega))
    go_upto_region 31 with fail
    go_wp2_with (go_at_call 24;refine (t0z S 3 w3 H3.out.src (by omega)).mono ?_;rintro e w4 ⟨y,rfl,hs,h0,h1,-⟩;have h1:=h1 (by decide);have H4:=zH (H3.out.trans hs);have Z4:=zH ((hs.block (t0a Z3.out) Hb.out).trans Z3.out);clear hs;rcases (show y = 0 ∨ y = 1 ∨ y = 2 by omega) with rfl | rfl | rfl)
    all_goals
      go_loopw [15,14] (fun nv ov wr=>∃ (m : Nat) (l : List EE) (xs : List Value) (d : Nat),nv = .int .i64 (m : Int) ∧ m + l.length ≤ 2 ∧ wr.ownsRow (w.heap.size + 1) 55 9 ov l.length xs ∧ Ch 9 (ES (we (aE (w.heap.size + 1) ov (.slice none 0 0)) wr) d) l xs ∧ (∀ x ∈ l,x.nodes ≤ 3 * M) ∧ wr.heap[w.heap.size]? = some (.cells #[.int .i64 0,.int .i64 0,.string ⟨#[]⟩,.slice none 0 0,.slice none 0 0,.slice none 0 0,.slice none 0 0] 28) ∧ SR S w wr) (fun nv _ _=>(intOf nv).toNat)
      case atStart=>first | exact ⟨0,[],[],0,rfl,by simp,World.ownsRow_nil _ _ _ _,Ch.nil,fun x hx=>by simp at hx,Z4.out,H4.out⟩ | exact ⟨1,[],[],0,rfl,by simp,World.ownsRow_nil _ _ _ _,Ch.nil,fun x hx=>by simp at hx,Z4.out,H4.out⟩ | exact ⟨2,[],[],0,rfl,by simp,World.ownsRow_nil _ _ _ _,Ch.nil,fun x hx=>by simp at hx,Z4.out,H4.out⟩
      case round =>
        obtain ⟨m,l,xs,d,rfl,hm,ho,hc,hN,hZr,hsr⟩:=hrel
        obtain ⟨pa,ca,rfl⟩:=t0r ho
        have Ho:=zH ho;have Hc:=zH hc;have HN:=zH hN;have HZr:=zH hZr;have Hsr:=zH hsr
        have hsz2 : w.heap.size + 1 ≤ wr.heap.size:=t0a hZr
        clear ho hc hN hZr hsr
        by_cases hm0 : 0 < m
        · have d9 : decide (0 < m) = true:=by simp [hm0]
          obtain ⟨wq,hwq⟩ : ∃ wq : World,wq = wr:=⟨_,rfl⟩
          subst hwq
          go_wp2_with (first
            | (go_at_call 47;refine (tfu S na (h - 1) M hna hM Hv1.out wq Hsr.out.src).mono ?_;rintro e w5 ⟨cs,en,dv,rfl,hx,hq,-,hs⟩;obtain ⟨e9,ea,e1,e2,e3,e4,e5,e6,e7,e8,rfl⟩:=hx.nine;have HX:=zH hx;have Hq:=zH hq;have Hs5:=zH hs;have Ho5:=zH (hs.owns Ho.out (by omega));have Hone:=zH hx.one;have hw5 : w.heap.size + 1 ≤ w5.heap.size:=(Nat.le_trans hsz2 hs.size);clear hx hq hs)
            | (at_builtin;(refine t0n rfl (.tmp 105) (.tmp 111) 25 rfl 55 (by kernel_rfl) t3n rfl (by decide) (by decide) (w.heap.size + 1) _ w5.heap.size [.slice e9 en.args.length ea,.bool en.fails,.int .i64 en.res.kind,.int .i64 en.res.num,.string en.res.text,.slice e1 en.res.kids.length e2,.slice e3 en.res.keys.length e4,.slice e5 en.res.ents.length e6,.slice e7 en.res.labels.length e8] (heap_alloc_new w5 _) (Nat.le_trans hw5 (by simp)) rfl Hone.out (.slice pa l.length ca) l.length xs rfl (t0d Ho5.out ((Below.refl _ _).alloc (Nat.le_refl _) _) (Nat.le_refl _)) (by omega) rfl ?_);intro v7 w7 ho7 hf7;have Hf7:=zH hf7;have hb7:=(hf7.below (Nat.le_trans hw5 (by simp)) (by simp) fun g hg=>(Ho5.out.lt g hg).1);have Hb7:=zH (((Below.refl w5.heap.size w5).alloc (Nat.le_refl _) (.cells #[.slice e9 en.args.length ea,.bool en.fails,.int .i64 en.res.kind,.int .i64 en.res.num,.string en.res.text,.slice e1 en.res.kids.length e2,.slice e3 en.res.keys.length e4,.slice e5 en.res.ents.length e6,.slice e7 en.res.labels.length e8] 55)).mono hw5 |>.trans hb7);have Ho7:=zH ho7;clear ho7 hf7 hb7))
          have hcA:=tbt Hc.out Hs5.out (by omega) HX.out (t3g Ho.out (World.ownsRow_nil wq 0 0 0) hsz2) Hf7.out rfl
          refine ⟨⟨m - 1,l ++ [en],xs ++ [.slice e9 en.args.length ea,.bool en.fails,.int .i64 en.res.kind,.int .i64 en.res.num,.string en.res.text,.slice e1 en.res.kids.length e2,.slice e3 en.res.keys.length e4,.slice e5 en.res.ents.length e6,.slice e7 en.res.labels.length e8],max d dv,by first | rfl | (congr 1;omega) | (congr 1),by simp;omega,by rw [List.length_append];exact Ho7.out,hcA,fun x hx=>?_,?_,(Hsr.out.trans Hs5.out).app (Hb7.out.mono (by omega))⟩,by simp [intOf];omega⟩
          · rcases List.mem_append.1 hx with hx | hx
            · exact HN.out x hx
            · rw [List.mem_singleton.1 hx];exact Hq.out
          · exact (Hb7.out.block _ (by omega)).trans ((Hs5.out.block (by omega) Hb.out).trans HZr.out)
        · have d9 : decide (0 < m) = false:=by simp;omega
          have HcE:=Hc.out.mono fun x cs _ h=>h.sub (aE_lo _ _ _ _)
          obtain ⟨pz,cz,ez,hrw⟩:=t1o (t1q Ho.out (t1g _)) HcE (by omega)
          have Hk:=zH (t9i (lo (w.heap.size + 1)) (na : Int) l wr (.slice pa l.length ca) ((t1g _).mono hsz2) ⟨d,pz,cz,ez,hrw⟩ (by omega))
          have HnF:=zH (show (mkF (na : Int) l).1.nodes ≤ 1 + 2 * (3 * M) from tca HN.out (by omega))
          clear ez hrw HcE
          generalize mkF (na : Int) l = F at *
          obtain ⟨T,code⟩:=F
          go_upto_region 36 with (go_at_call 20;refine Hk.out.mono ?_;rintro e wT ⟨vT,rfl,hx,-,hb⟩;obtain ⟨dv,cs,rfl,hx⟩:=hx;obtain ⟨t1,t2,t3,t4,t5,t6,t7,t8,rfl⟩:=hx.seven;have HX:=zH hx;have HT:=zH (Hsr.out.step hb);have ZT:=zH ((hb.block _ (t0a HZr.out)).trans HZr.out);clear hx hb)
          have HnT:=HnF
          have hBt:=heap_alloc_new wT (.cells #[.int .i64 T.kind,.int .i64 T.num,.string T.text,.slice t1 T.kids.length t2,.slice t3 T.keys.length t4,.slice t5 T.ents.length t6,.slice t7 T.labels.length t8] 28)
          have hbt : Below wT.heap.size wT (wT.alloc (.cells #[.int .i64 T.kind,.int .i64 T.num,.string T.text,.slice t1 T.kids.length t2,.slice t3 T.keys.length t4,.slice t5 T.ents.length t6,.slice t7 T.labels.length t8] 28)):=(Below.refl _ _).alloc (Nat.le_refl _) _
          generalize wT.alloc (.cells #[.int .i64 T.kind,.int .i64 T.num,.string T.text,.slice t1 T.kids.length t2,.slice t3 T.keys.length t4,.slice t5 T.ents.length t6,.slice t7 T.labels.length t8] 28) = wU at *
          obtain ⟨⟨f0,f1,f2,f3⟩,f4,f5,f6⟩:=t0f hBt
          have HU:=zH (HT.out.step hbt);have ZU:=zH ((hbt.block _ (t0a ZT.out)).trans ZT.out);have HXU:=zH (t5u hbt HX.out)
          have hsU : w.heap.size + 1 ≤ wU.heap.size:=t0a ZU.out
          clear hBt hbt
          by_cases hcode : code = 0
          · have d7 : (code == 0) = true:=by simp [hcode]
            clear hcode
            go_wp2_with (first
            | (with_reducible refine wpList_store_row rfl 28 (.tmp 4) (.tmp 121) rfl _ _ rfl rfl _ _ ZU.out (by kernel_rfl) (by kernel_rfl) (by kernel_rfl) ?_))
            refine bodyPost_ret (results_cell_row rfl _ _ w.heap.size 28 _ (0,0) _ rfl (setRow_heap _ _ _ _ _ _ ZU.out) rfl rfl (by kernel_rfl)) rfl ?_
            exact ⟨_,_,rfl,t1v ⟨dv,_,rfl,HXU.out⟩ HEx.out HEl.out _,(by show T.nodes ≤ 10 * M;have:=HnT.out;have h2 : T.nodes ≤ 1 + 2 * (3 * M):=this;omega),HU.out.row (Nat.le_refl _) Hb.out _⟩
          · have d7 : (code == 0) = false:=by simp [hcode]
            clear hcode f0 f1 f2 f3 f4 f5 f6
            go_wp2_with (first
              | (go_at_call 41;refine (t2y S wU HU.out.src).mono ?_;rintro e wL ⟨vL,X,rfl,hx,hq,hs⟩;obtain ⟨dv,cs,rfl,hx⟩:=hx;obtain ⟨x1,x2,x3,x4,x5,x6,x7,x8,rfl⟩:=hx.seven;have HX:=zH (hx.sub (t1m wL (show w.heap.size + 1 ≤ wU.heap.size from t0a ZU.out)));have Hq:=zH hq.2.1;have HL:=zH (HU.out.trans hs);have ZL:=zH ((hs.block (t0a ZU.out) Hb.out).trans ZU.out);clear hx hq hs)
              | (with_reducible refine wpList_store_row rfl 28 (.tmp 4) (.tmp 123) rfl _ _ rfl rfl _ _ ZL.out (by kernel_rfl) (by kernel_rfl) (by kernel_rfl) ?_))
            refine bodyPost_ret (results_cell_row rfl _ _ w.heap.size 28 _ (0,0) _ rfl (setRow_heap _ _ _ _ _ _ ZL.out) rfl rfl (by kernel_rfl)) rfl ?_
            exact ⟨_,_,rfl,t1v ⟨dv,_,rfl,HX.out⟩ HEx.out HEl.out _,(by show X.nodes ≤ 10 * M;have:=Hq.out;omega),HL.out.row (Nat.le_refl _) Hb.out _⟩
  · go_wp2_with (first
      | (go_at_call 41;refine (t2y S w2 H2.out.src).mono ?_;rintro e wL ⟨vL,X,rfl,hx,hq,hs⟩;obtain ⟨dv,cs,rfl,hx⟩:=hx;obtain ⟨x1,x2,x3,x4,x5,x6,x7,x8,rfl⟩:=hx.seven;have HX:=zH (hx.sub (t1m wL (show w.heap.size + 1 ≤ w2.heap.size from t0a Z2.out)));have Hq:=zH hq.2.1;have HL:=zH (H2.out.trans hs);have ZL:=zH ((hs.block (t0a Z2.out) Hb.out).trans Z2.out);clear hx hq hs)
      | (with_reducible refine wpList_store_row rfl 28 (.tmp 4) (.tmp 123) rfl _ _ rfl rfl _ _ ZL.out (by kernel_rfl) (by kernel_rfl) (by kernel_rfl) ?_))
    refine bodyPost_ret (results_cell_row rfl _ _ w.heap.size 28 _ (0,0) _ rfl (setRow_heap _ _ _ _ _ _ ZL.out) rfl rfl (by kernel_rfl)) rfl ?_
    exact ⟨_,_,rfl,t1v ⟨dv,_,rfl,HX.out⟩ HEx.out HEl.out _,(by show X.nodes ≤ 10 * M;have:=Hq.out;omega),HL.out.row (Nat.le_refl _) Hb.out _⟩
set_option maxHeartbeats 16000000 in
theorem tfv (S : SD) (h : Int) (w : World) (hS : SRC S w) (hh : h ≤ 1) : Calls Tryz.prog 26 #[.pointer (some ⟨S.b,0,none⟩),.int .i64 h] w (GV (fun V=>V.nodes ≤ 1) S w):=by
  have Hb:=zH (show w.heap.size ≠ S.b by have:=hS.lt;omega)
  have Ha:=zH (SR.alloc hS (.cells #[.int .i64 0,.int .i64 0,.string ⟨#[]⟩,.slice none 0 0,.slice none 0 0,.slice none 0 0,.slice none 0 0] 28))
  have Hn:=zH (heap_alloc_new w (.cells #[.int .i64 0,.int .i64 0,.string ⟨#[]⟩,.slice none 0 0,.slice none 0 0,.slice none 0 0,.slice none 0 0] 28))
  have HEx:=zH (show lo (w.heap.size + 1) w.heap.size = true by simp [lo])
  have HEl:=zH (show ∀ k,k < w.heap.size → lo (w.heap.size + 1) k = true from fun k hk=>by simp [lo];omega)
  clear hS
  go_enter Tryz.func26,Tryz.ntmps26
  go_upto_region 1 with fail
  generalize w.alloc (.cells #[.int .i64 0,.int .i64 0,.string ⟨#[]⟩,.slice none 0 0,.slice none 0 0,.slice none 0 0,.slice none 0 0] 28) = w1 at *
  have d0 : decide (h ≤ 1) = true:=by simp;omega
  go_wp2_with (first
    | (go_at_call 41;refine (t2y S w1 Ha.out.src).mono ?_;rintro e wL ⟨vL,X,rfl,hx,hq,hs⟩;obtain ⟨dv,cs,rfl,hx⟩:=hx;obtain ⟨x1,x2,x3,x4,x5,x6,x7,x8,rfl⟩:=hx.seven;have HX:=zH (hx.sub (t1m wL (show w.heap.size + 1 ≤ w1.heap.size from t0a Hn.out)));have Hq:=zH hq.2.1;have HL:=zH (Ha.out.trans hs);have ZL:=zH ((hs.block (t0a Hn.out) Hb.out).trans Hn.out);clear hx hq hs)
    | (with_reducible refine wpList_store_row rfl 28 (.tmp 4) (.tmp 21) rfl _ _ rfl rfl _ _ ZL.out (by kernel_rfl) (by kernel_rfl) (by kernel_rfl) ?_))
  refine bodyPost_ret (results_cell_row rfl _ _ w.heap.size 28 _ (0,0) _ rfl (setRow_heap _ _ _ _ _ _ ZL.out) rfl rfl (by kernel_rfl)) rfl ?_
  exact ⟨_,_,rfl,t1v ⟨dv,_,rfl,HX.out⟩ HEx.out HEl.out _,(by show X.nodes ≤ 1;have:=Hq.out;omega),HL.out.row (Nat.le_refl _) Hb.out _⟩
end Go.Proofs.YtjgldaaofdpcgaaGreat
