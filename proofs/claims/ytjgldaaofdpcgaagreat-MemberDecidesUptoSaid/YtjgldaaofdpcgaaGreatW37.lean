/- Walks and plain facts for the laws of membership, for all values and types that the heap holds (texts A6). -/
import Derived.Test.YtjgldaaofdpcgaaGreatW03
import Derived.Test.YtjgldaaofdpcgaaGreatW36
set_option linter.unusedVariables false
set_option linter.unusedSimpArgs false
namespace Go.Proofs.YtjgldaaofdpcgaaGreat
open Go.RowKit Go.Ident
set_option maxRecDepth 100000
theorem t1p {S : SD} {w w' : World} {b o : Nat} {v : Value} (h : SR S w w') (hc : w.cell? ⟨b,o,none⟩ = some v) (hb : b ≠ S.b) (hl : b < w.heap.size) : w'.cell? ⟨b,o,none⟩ = some v:=by
  rw [t6m (h.block hl hb)];exact hc
theorem thd {Kp : Nat → Prop} {S : SD} {w w' : World} (h : SR S w w') (hk : ∀ i,i < w.heap.size → Kp i → i ≠ S.b) : LexK.Ext Kp w w':=⟨h.size,fun i hi e=>h.block hi (hk i hi e)⟩
theorem tf9 {Kp : Nat → Prop} {v v' : Value} {w w' : World} (h : Fr [] v v' w w') (hk : ∀ i,i < w.heap.size → Kp i → v.ownBlock ≠ some i) : LexK.Ext Kp w w':=⟨h.size,fun i hi e=>h.block i hi (by simp) (hk i hi e)⟩
theorem thf {S : SD} {w : World} {p : Option Addr} {c : Nat} {fs : List FF} {i : Nat} (h : Rw (wo S.b w) p c 4 fs FC) (hi : i < fs.length) :
    ∃ a o,p = some ⟨a,o,none⟩ ∧ a ≠ S.b ∧ a < w.heap.size ∧ ∀ w',SR S w w' → w'.cell? ⟨a,o + i * 4,none⟩ = some (.int .i64 fs[i].key.kind) ∧ w'.cell? ⟨a,o + i * 4 + 1,none⟩ = some (.string fs[i].key.text) ∧ w'.cell? ⟨a,o + i * 4 + 2,none⟩ = some (.int .i64 fs[i].node) ∧ w'.cell? ⟨a,o + i * 4 + 3,none⟩ = some (.bool fs[i].opt):=by
  obtain ⟨a,o,cs,h1,h2,h3,h4,h5⟩:=h.all hi
  unfold FC at h5
  subst h5
  have h0:=t1j (h4 _ (Below.refl _ _) 0 _ rfl)
  refine ⟨a,o,h1,by have:=h0.1;simpa using this,by rwa [t1e] at h2,fun w' hs=>?_⟩
  have:=h4 _ hs.bel
  exact ⟨t0l (this 0 _ rfl),t0l (this 1 _ rfl),t0l (this 2 _ rfl),t0l (this 3 _ rfl)⟩
set_option maxHeartbeats 64000000 in
theorem te0 (T : Ty) (tv : Value) (N : Nat) (S : SD) (h : Int) (n : TN) (ns : List Value) (hN : 1 ≤ N) (h1 : 1 ≤ h) (hh : h ≤ 1000) (hfl : n.fields.length ≤ 3) (hv : ∀ k,NV T tv N S k (h - 1)) (w : World) (hS : SRC S w) (hT : TB S T tv w) (hn : NC (wo S.b w) n ns) :
    Calls Tryz.prog 77 #[.pointer (some ⟨S.b,0,none⟩),tv,.agg ns.toArray,.int .i64 h] w (GV (fun V=>V.nodes ≤ 1 + 4 * N ∧ V.labels = []) S w):=by
  have HV:=zH hv
  obtain ⟨pT,cT,rfl,-,-⟩:=id hT
  obtain ⟨p1,c1,p2,c2,rfl,-,hF⟩:=hn
  have hltS:=hS.lt
  obtain ⟨w2,e9,hA,hB,hC,hb,hs2⟩:=boxes3' w (.cells #[.slice pT T.nodes.length cT,.int .i64 T.root] 31) (.cells #[.int .i64 n.kind,.int .i64 n.lo,.int .i64 n.hi,.string n.text,.slice p1 n.kids.length c1,.slice p2 n.fields.length c2,.int .i64 n.rest0,.int .i64 n.rest1] 48) (.cells #[.int .i64 0,.int .i64 0,.string ⟨#[]⟩,.slice none 0 0,.slice none 0 0,.slice none 0 0,.slice none 0 0] 28)
  have H2:=zH ((SR.refl hS).app hb)
  have Hb:=zH (show w.heap.size + 2 ≠ S.b by omega)
  have HEx:=zH (show lo (w.heap.size + 3) (w.heap.size + 2) = true by simp [lo])
  have HEl:=zH (show ∀ k,k < w.heap.size → lo (w.heap.size + 3) k = true from fun k hk=>by simp [lo];omega)
  have HT:=zH (hT.sr H2.out)
  have HF0:=zH (show Rw (wo S.b w2) p2 c2 4 n.fields FC from hF.below H2.out.bel fun _ _ _ h=>h)
  obtain ⟨g0,g1⟩:=t0k hA
  obtain ⟨⟨n0,n1,n2,n3⟩,n4,n5,n6,n7⟩:=t0y hB
  have HGt0:=zH g0;have HGt1:=zH g1;have HGn:=zH n5;have HGr0:=zH n6;have HGr1:=zH n7;have HO:=zH hC
  clear hA hB hC hb hS hT hv hF g0 g1 n0 n1 n2 n3 n4 n6 n7
  go_enter Tryz.func77,Tryz.ntmps77
  go_wp2
  try rw [e9]
  clear e9 n5
  go_loopw [9,10,11] (fun yv ov iv wr=>∃ (i : Nat) (Y : List KK) (ys : List Value) (l : List VV) (xs : List Value) (d : Nat),iv = .int .i64 (i : Int) ∧ i ≤ n.fields.length ∧ l.length ≤ i ∧ Y.length = l.length ∧ wr.ownsRow (w.heap.size + 3) 73 2 yv Y.length ys ∧ Ch 2 KC Y ys ∧ wr.ownsRow (w.heap.size + 3) 28 7 ov l.length xs ∧ Ch 7 (VS (we (aE (w.heap.size + 3) ov yv) wr) d) l xs ∧ (∀ x ∈ l,x.nodes ≤ N) ∧ SR S w2 wr) (fun _ _ iv _=>((n.fields.length : Int) - intOf iv).toNat)
  case atStart=>exact ⟨0,[],[],[],[],0,rfl,by omega,by simp,rfl,World.ownsRow_nil _ _ _ _,Ch.nil,World.ownsRow_nil _ _ _ _,Ch.nil,fun x hx=>by simp at hx,SR.refl H2.out.src⟩
  case round =>
    obtain ⟨i,Y,ys,l,xs,d,rfl,hi,hli,hYl,hoY,hcY,ho,hc,hN2,hsr⟩:=hrel
    obtain ⟨pk,ck,rfl⟩:=t0r ho
    obtain ⟨py,cy,rfl⟩:=t0r hoY
    have Ho:=zH ho;have Hc:=zH hc;have HN:=zH hN2;have Hsr:=zH hsr;have HoY:=zH hoY;have HcY:=zH hcY;have HYl:=zH hYl
    have hYl2 : Y.length ≤ 3:=by omega
    have hsz2 : (w.heap.size + 3) ≤ wr.heap.size:=by have:=hsr.size;omega
    have gn : wr.cell? ⟨w.heap.size + 1,5,none⟩ = _:=t1p hsr HGn.out (by omega) (by omega)
    clear ho hc hN2 hsr hoY hcY hYl
    by_cases hlt : i < n.fields.length
    · have d9 : decide (i < n.fields.length) = true:=by simp [hlt]
      obtain ⟨a,o,rfl,hab,hal,hcell⟩:=thf HF0.out hlt
      have Hab:=zH hab
      have hal3 : a < (w.heap.size + 3):=by omega
      generalize n.fields[i] = f at *
      have HF:=zH hcell
      obtain ⟨q0,q1,q2,q3⟩:=hcell _ Hsr.out
      clear hcell hab
      obtain ⟨wq,hwq⟩ : ∃ wq : World,wq = wr:=⟨_,rfl⟩
      subst hwq
      cases hopt : f.opt with
      | false =>
        rw [hopt] at q3
        go_upto_region 7 with fail
        have Hs5:=zH (SR.refl Hsr.out.src)
        clear q0 q1 q2 q3 gn
        have ⟨w5,hw5e⟩ : ∃ w5 : World,w5 = wq:=⟨_,rfl⟩
        have Hs5:=zH (show SR S wq w5 from by rw [hw5e];exact Hs5.out)
        rw [← hw5e]
        clear hw5e
        have H5:=zH (Hsr.out.trans Hs5.out)
        have hw5 : (w.heap.size + 3) ≤ w5.heap.size:=Nat.le_trans hsz2 Hs5.out.size
        have HoY5:=zH (Hs5.out.owns HoY.out (by omega));have HoK5:=zH (Hs5.out.owns Ho.out (by omega))
        obtain ⟨q0,q1,q2,q3⟩:=HF.out w5 H5.out
        have g5 : w5.cell? ⟨w.heap.size + 1,5,none⟩ = _:=t1p H5.out HGn.out (by omega) (by omega)
        go_upto_region 8 with (at_builtin;(refine t0n rfl (.tmp 33) (.tmp 40) 24 rfl 73 (by kernel_rfl) t2z rfl (by decide) (by decide) (w.heap.size + 3) _ w5.heap.size [.int .i64 f.key.kind,.string f.key.text] (heap_alloc_new w5 _) (Nat.le_trans hw5 (by simp)) rfl (by intro u hu;simp at hu;rcases hu with rfl | rfl <;> rfl) (.slice py Y.length cy) Y.length ys rfl (t0d HoY5.out ((Below.refl _ _).alloc (Nat.le_refl _) _) (Nat.le_refl _)) (by omega) rfl ?_);intro v6 w6 ho6 hf6;have Hf6:=zH hf6;have hb6:=(hf6.below (Nat.le_trans hw5 (by simp)) (by simp) fun g hg=>(HoY5.out.lt g hg).1);have hal6:=(Below.refl w5.heap.size w5).alloc (Nat.le_refl _) (.cells #[.int .i64 f.key.kind,.string f.key.text] 73);have Hb6:=zH ((hal6.mono hw5).trans hb6);obtain ⟨p6,c6,rfl⟩:=t0r ho6;have HoY6:=zH ho6;have HoK6:=zH (t2m (t0d HoK5.out hal6 (Nat.le_refl _)) (t0d HoY5.out hal6 (Nat.le_refl _)) (by decide) hf6);have H6:=zH (H5.out.app (Hb6.out.mono (by omega)));have hc6 : Ch 7 (VS (we (aE (w.heap.size + 3) (.slice pk l.length ck) (.slice p6 (Y.length + 1) c6)) w6) d) l xs:=(by rw [t3u];exact Hc.out.mono fun x cs _ h=>(((by rw [t3u] at h;exact h.below (by rw [t0j];exact Hs5.out.we (aE_b (by omega))) : VS (we (aE (w.heap.size + 3) (.slice py Y.length cy) (.slice pk l.length ck)) w5) d x cs).below (by rw [t0j];exact t1l hal6)).sub (t4g hf6)));have Hc6:=zH hc6;have hw6 : (w.heap.size + 3) ≤ w6.heap.size:=Nat.le_trans hw5 (Nat.le_trans hal6.size hf6.size);clear ho6 hf6 hb6 hal6 hc6)
        clear q0 q1 q2 q3 g5
        obtain ⟨q0,q1,q2,q3⟩:=HF.out w6 H6.out
        have g5 : w6.cell? ⟨w.heap.size + 1,5,none⟩ = _:=t1p H6.out HGn.out (by omega) (by omega)
        have t0 : w6.cell? ⟨w.heap.size,0,none⟩ = _:=t1p H6.out HGt0.out (by omega) (by omega)
        have t1 : w6.cell? ⟨w.heap.size,1,none⟩ = _:=t1p H6.out HGt1.out (by omega) (by omega)
        have YT:=zH (show w6.drew.cell? ⟨w.heap.size,0,none⟩ = _ from t0)
        have YN:=zH (show w6.drew.cell? ⟨w.heap.size + 1,5,none⟩ = _ from g5)
        have YF:=zH (show w6.drew.cell? ⟨a,o + i * 4 + 2,none⟩ = _ from q2)
        go_wp2_with (first
          | ((with_reducible refine Lex.t0w ?_);refine fE (by repeat first | exact LexK.t0t | refine LexK.t0o rfl ?_ | refine LexK.t0p (by decide +kernel) ?_ | refine LexK.t0c rfl ⟨by omega,by omega⟩ YT.out ?_ | refine LexK.t0c rfl ⟨by omega,by omega⟩ YN.out ?_ | refine LexK.t0c rfl ⟨by omega,Hab.out⟩ YF.out ?_) ?_)
          | ((with_reducible refine Lex.t0q ?_);refine LexK.t0h (fun x=>x < (w.heap.size + 3) ∧ x ≠ S.b) (by kernel_rfl) (by decide +kernel) ?_)
          | (with_reducible first | refine qH ?_ | refine LexK.t0s ?_ | refine LexK.t0v ?_)
          | ((with_reducible refine Lex.t1b ?_);first | (refine LexK.t0e hex7.out ?_) | (refine LexK.t0e hex8.out ?_) | (refine LexK.t0e (LexK.Ext.alloc _ _) ?_) | (refine LexK.t0e (LexK.Ext.refl _) ?_))
          | (go_at_call 25;refine (HV.out f.node w6.drew H6.out.drew.src (HT.out.sr H6.out.drew)).mono ?_;rintro e w7 ⟨v7,X,rfl,hx,hq,hs⟩;obtain ⟨dv,cs,rfl,hx⟩:=hx;obtain ⟨x1,x2,x3,x4,x5,x6,x7,x8,rfl⟩:=hx.seven;have HX:=zH hx;have Hq:=zH hq.2;have hex7:=zH (t2v hs (by exact hw6));have Hs7:=zH ((SR.refl H6.out.src).drew.trans hs);have HoK7:=zH (hs.owns (t1s HoK6.out) (by omega));have HoY7:=zH (hs.owns (t1s HoY6.out) (by omega));have Hone:=zH hx.one;have hw7 : (w.heap.size + 3) ≤ w7.heap.size:=(Nat.le_trans hw6 hs.size);clear hx hq hs)
          | (at_builtin;(refine t0n rfl (.tmp 42) (.tmp 54) 23 rfl 28 (by kernel_rfl) t1w rfl (by decide) (by decide) (w.heap.size + 3) _ w7.heap.size [.int .i64 X.kind,.int .i64 X.num,.string X.text,.slice x1 X.kids.length x2,.slice x3 X.keys.length x4,.slice x5 X.ents.length x6,.slice x7 X.labels.length x8] (heap_alloc_new w7 _) (Nat.le_trans hw7 (by simp)) rfl Hone.out (.slice pk l.length ck) l.length xs rfl (t0d HoK7.out ((Below.refl _ _).alloc (Nat.le_refl _) _) (Nat.le_refl _)) (by omega) rfl ?_);intro v8 w8 ho8 hf8;have Hf8:=zH hf8;have hb8:=(hf8.below (Nat.le_trans hw7 (by simp)) (by simp) fun g hg=>(HoK7.out.lt g hg).1);have hex8:=zH (show LexK.Ext (fun x=>x < (w.heap.size + 3) ∧ x ≠ S.b) (w7.alloc (.cells #[.int .i64 X.kind,.int .i64 X.num,.string X.text,.slice x1 X.kids.length x2,.slice x3 X.keys.length x4,.slice x5 X.ents.length x6,.slice x7 X.labels.length x8] 28)) w8 from t4r hb8);have hal8:=(Below.refl w7.heap.size w7).alloc (Nat.le_refl _) (.cells #[.int .i64 X.kind,.int .i64 X.num,.string X.text,.slice x1 X.kids.length x2,.slice x3 X.keys.length x4,.slice x5 X.ents.length x6,.slice x7 X.labels.length x8] 28);have Hb8:=zH ((hal8.mono hw7).trans hb8);have HoK8:=zH ho8;have HoY8:=zH (t2m (t0d HoY7.out hal8 (Nat.le_refl _)) (t0d HoK7.out hal8 (Nat.le_refl _)) (by decide) hf8);clear ho8 hf8 hb8 hal8))
        have hcA:=t4z Hc6.out Hs7.out (by omega) HX.out (t3g HoK6.out HoY6.out hw6) Hf8.out
        refine ⟨⟨i + 1,Y ++ [f.key],ys ++ [.int .i64 f.key.kind,.string f.key.text],l ++ [X],xs ++ [.int .i64 X.kind,.int .i64 X.num,.string X.text,.slice x1 X.kids.length x2,.slice x3 X.keys.length x4,.slice x5 X.ents.length x6,.slice x7 X.labels.length x8],max d dv,by first | rfl | (congr 1),by omega,by rw [List.length_append];show l.length + 1 ≤ _;omega,by simp [HYl.out],by rw [List.length_append];exact HoY8.out,HcY.out.append (Ch.single (P:=KC) (x:=f.key) (cs:=[.int .i64 f.key.kind,.string f.key.text]) rfl rfl),by rw [List.length_append];exact HoK8.out,hcA,fun x hx=>?_,(H6.out.trans Hs7.out).app (Hb8.out.mono (by omega))⟩,by simp [intOf];omega⟩
        rcases List.mem_append.1 hx with hx | hx
        · exact HN.out x hx
        · rw [List.mem_singleton.1 hx];exact Hq.out

      | true =>
        rw [hopt] at q3
        go_upto_region 7 with (go_at_call 24;refine (t0z S 2 wq Hsr.out.src (by omega)).mono ?_;rintro e w5 ⟨y,rfl,hs,h0,h1,-⟩;have h1:=h1 (by decide);have Hs5:=zH hs;clear hs;rcases (show y = 0 ∨ y = 1 by omega) with rfl | rfl)
        · clear q0 q1 q2 q3 gn
          have H5:=zH (Hsr.out.trans Hs5.out)
          have hw5 : (w.heap.size + 3) ≤ w5.heap.size:=Nat.le_trans hsz2 Hs5.out.size
          have HoY5:=zH (Hs5.out.owns HoY.out (by omega));have HoK5:=zH (Hs5.out.owns Ho.out (by omega))
          obtain ⟨q0,q1,q2,q3⟩:=HF.out w5 H5.out
          have g5 : w5.cell? ⟨w.heap.size + 1,5,none⟩ = _:=t1p H5.out HGn.out (by omega) (by omega)
          go_upto_region 8 with (at_builtin;(refine t0n rfl (.tmp 33) (.tmp 40) 24 rfl 73 (by kernel_rfl) t2z rfl (by decide) (by decide) (w.heap.size + 3) _ w5.heap.size [.int .i64 f.key.kind,.string f.key.text] (heap_alloc_new w5 _) (Nat.le_trans hw5 (by simp)) rfl (by intro u hu;simp at hu;rcases hu with rfl | rfl <;> rfl) (.slice py Y.length cy) Y.length ys rfl (t0d HoY5.out ((Below.refl _ _).alloc (Nat.le_refl _) _) (Nat.le_refl _)) (by omega) rfl ?_);intro v6 w6 ho6 hf6;have Hf6:=zH hf6;have hb6:=(hf6.below (Nat.le_trans hw5 (by simp)) (by simp) fun g hg=>(HoY5.out.lt g hg).1);have hal6:=(Below.refl w5.heap.size w5).alloc (Nat.le_refl _) (.cells #[.int .i64 f.key.kind,.string f.key.text] 73);have Hb6:=zH ((hal6.mono hw5).trans hb6);obtain ⟨p6,c6,rfl⟩:=t0r ho6;have HoY6:=zH ho6;have HoK6:=zH (t2m (t0d HoK5.out hal6 (Nat.le_refl _)) (t0d HoY5.out hal6 (Nat.le_refl _)) (by decide) hf6);have H6:=zH (H5.out.app (Hb6.out.mono (by omega)));have hc6 : Ch 7 (VS (we (aE (w.heap.size + 3) (.slice pk l.length ck) (.slice p6 (Y.length + 1) c6)) w6) d) l xs:=(by rw [t3u];exact Hc.out.mono fun x cs _ h=>(((by rw [t3u] at h;exact h.below (by rw [t0j];exact Hs5.out.we (aE_b (by omega))) : VS (we (aE (w.heap.size + 3) (.slice py Y.length cy) (.slice pk l.length ck)) w5) d x cs).below (by rw [t0j];exact t1l hal6)).sub (t4g hf6)));have Hc6:=zH hc6;have hw6 : (w.heap.size + 3) ≤ w6.heap.size:=Nat.le_trans hw5 (Nat.le_trans hal6.size hf6.size);clear ho6 hf6 hb6 hal6 hc6)
          clear q0 q1 q2 q3 g5
          obtain ⟨q0,q1,q2,q3⟩:=HF.out w6 H6.out
          have g5 : w6.cell? ⟨w.heap.size + 1,5,none⟩ = _:=t1p H6.out HGn.out (by omega) (by omega)
          have t0 : w6.cell? ⟨w.heap.size,0,none⟩ = _:=t1p H6.out HGt0.out (by omega) (by omega)
          have t1 : w6.cell? ⟨w.heap.size,1,none⟩ = _:=t1p H6.out HGt1.out (by omega) (by omega)
          have YT:=zH (show w6.drew.cell? ⟨w.heap.size,0,none⟩ = _ from t0)
          have YN:=zH (show w6.drew.cell? ⟨w.heap.size + 1,5,none⟩ = _ from g5)
          have YF:=zH (show w6.drew.cell? ⟨a,o + i * 4 + 2,none⟩ = _ from q2)
          go_wp2_with (first
            | ((with_reducible refine Lex.t0w ?_);refine fE (by repeat first | exact LexK.t0t | refine LexK.t0o rfl ?_ | refine LexK.t0p (by decide +kernel) ?_ | refine LexK.t0c rfl ⟨by omega,by omega⟩ YT.out ?_ | refine LexK.t0c rfl ⟨by omega,by omega⟩ YN.out ?_ | refine LexK.t0c rfl ⟨by omega,Hab.out⟩ YF.out ?_) ?_)
            | ((with_reducible refine Lex.t0q ?_);refine LexK.t0h (fun x=>x < (w.heap.size + 3) ∧ x ≠ S.b) (by kernel_rfl) (by decide +kernel) ?_)
            | (with_reducible first | refine qH ?_ | refine LexK.t0s ?_ | refine LexK.t0v ?_)
            | ((with_reducible refine Lex.t1b ?_);first | (refine LexK.t0e hex7.out ?_) | (refine LexK.t0e hex8.out ?_) | (refine LexK.t0e (LexK.Ext.alloc _ _) ?_) | (refine LexK.t0e (LexK.Ext.refl _) ?_))
            | (go_at_call 25;refine (HV.out f.node w6.drew H6.out.drew.src (HT.out.sr H6.out.drew)).mono ?_;rintro e w7 ⟨v7,X,rfl,hx,hq,hs⟩;obtain ⟨dv,cs,rfl,hx⟩:=hx;obtain ⟨x1,x2,x3,x4,x5,x6,x7,x8,rfl⟩:=hx.seven;have HX:=zH hx;have Hq:=zH hq.2;have hex7:=zH (t2v hs (by exact hw6));have Hs7:=zH ((SR.refl H6.out.src).drew.trans hs);have HoK7:=zH (hs.owns (t1s HoK6.out) (by omega));have HoY7:=zH (hs.owns (t1s HoY6.out) (by omega));have Hone:=zH hx.one;have hw7 : (w.heap.size + 3) ≤ w7.heap.size:=(Nat.le_trans hw6 hs.size);clear hx hq hs)
            | (at_builtin;(refine t0n rfl (.tmp 42) (.tmp 54) 23 rfl 28 (by kernel_rfl) t1w rfl (by decide) (by decide) (w.heap.size + 3) _ w7.heap.size [.int .i64 X.kind,.int .i64 X.num,.string X.text,.slice x1 X.kids.length x2,.slice x3 X.keys.length x4,.slice x5 X.ents.length x6,.slice x7 X.labels.length x8] (heap_alloc_new w7 _) (Nat.le_trans hw7 (by simp)) rfl Hone.out (.slice pk l.length ck) l.length xs rfl (t0d HoK7.out ((Below.refl _ _).alloc (Nat.le_refl _) _) (Nat.le_refl _)) (by omega) rfl ?_);intro v8 w8 ho8 hf8;have Hf8:=zH hf8;have hb8:=(hf8.below (Nat.le_trans hw7 (by simp)) (by simp) fun g hg=>(HoK7.out.lt g hg).1);have hex8:=zH (show LexK.Ext (fun x=>x < (w.heap.size + 3) ∧ x ≠ S.b) (w7.alloc (.cells #[.int .i64 X.kind,.int .i64 X.num,.string X.text,.slice x1 X.kids.length x2,.slice x3 X.keys.length x4,.slice x5 X.ents.length x6,.slice x7 X.labels.length x8] 28)) w8 from t4r hb8);have hal8:=(Below.refl w7.heap.size w7).alloc (Nat.le_refl _) (.cells #[.int .i64 X.kind,.int .i64 X.num,.string X.text,.slice x1 X.kids.length x2,.slice x3 X.keys.length x4,.slice x5 X.ents.length x6,.slice x7 X.labels.length x8] 28);have Hb8:=zH ((hal8.mono hw7).trans hb8);have HoK8:=zH ho8;have HoY8:=zH (t2m (t0d HoY7.out hal8 (Nat.le_refl _)) (t0d HoK7.out hal8 (Nat.le_refl _)) (by decide) hf8);clear ho8 hf8 hb8 hal8))
          have hcA:=t4z Hc6.out Hs7.out (by omega) HX.out (t3g HoK6.out HoY6.out hw6) Hf8.out
          refine ⟨⟨i + 1,Y ++ [f.key],ys ++ [.int .i64 f.key.kind,.string f.key.text],l ++ [X],xs ++ [.int .i64 X.kind,.int .i64 X.num,.string X.text,.slice x1 X.kids.length x2,.slice x3 X.keys.length x4,.slice x5 X.ents.length x6,.slice x7 X.labels.length x8],max d dv,by first | rfl | (congr 1),by omega,by rw [List.length_append];show l.length + 1 ≤ _;omega,by simp [HYl.out],by rw [List.length_append];exact HoY8.out,HcY.out.append (Ch.single (P:=KC) (x:=f.key) (cs:=[.int .i64 f.key.kind,.string f.key.text]) rfl rfl),by rw [List.length_append];exact HoK8.out,hcA,fun x hx=>?_,(H6.out.trans Hs7.out).app (Hb8.out.mono (by omega))⟩,by simp [intOf];omega⟩
          rcases List.mem_append.1 hx with hx | hx
          · exact HN.out x hx
          · rw [List.mem_singleton.1 hx];exact Hq.out

        · refine ⟨⟨i + 1,Y,ys,l,xs,d,by first | rfl | (congr 1),by omega,by omega,HYl.out,Hs5.out.owns HoY.out (by omega),HcY.out,Hs5.out.owns Ho.out (by omega),Hc.out.mono fun x cs _ h=>h.below (by rw [t0j];exact Hs5.out.we (aE_b (by omega))),HN.out,Hsr.out.trans Hs5.out⟩,by simp [intOf];omega⟩
    · have d9 : decide (i < n.fields.length) = false:=by simp;omega
      go_upto_region 10 with (go_at_call 24;refine (t0z S 2 wr Hsr.out.src (by omega)).mono ?_;rintro e w3 ⟨y,rfl,hs,h0,h1,-⟩;have h1:=h1 (by decide);have Hs3:=zH hs;clear hs;rcases (show y = 0 ∨ y = 1 by omega) with rfl | rfl)
      · have HoY3:=Hs3.out.owns HoY.out (by omega)
        have HoK3:=Hs3.out.owns Ho.out (by omega)
        have H3:=zH (Hsr.out.trans Hs3.out)
        have hw3 : (w.heap.size + 3) ≤ w3.heap.size:=Nat.le_trans hsz2 Hs3.out.size
        have hc3:=Hc.out.mono fun x cs _ h=>h.below (by rw [t0j];exact Hs3.out.we (aE_b (by omega)))
        have hlen : l.length ≤ 3:=by omega
        have HcE:=hc3.mono fun x cs _ h=>h.sub (aE_lo _ _ _ _)
        obtain ⟨pz,cz,ez,hrw⟩:=t1o (t1q HoK3 (t1g _)) HcE (by first | omega | (simp;omega))
        obtain ⟨pu,cu,eu,hru⟩:=t1o (t1q HoY3 (t1g _)) HcY.out (by first | omega | (simp;omega))
        have hYw:=H3.out.size
        have Hsz9:=zH (show (w.heap.size + 3) ≤ w3.heap.size from hw3)
        have Hk:=zH (t7b (lo (w.heap.size + 3)) Y l w3 (.slice py Y.length cy) (.slice pk l.length ck) ((t1g _).mono Hsz9.out) ⟨pu,cu,eu,hru⟩ ⟨d,pz,cz,ez,hrw⟩ (by first | omega | (simp;omega)))
        clear ez hrw HcE eu hru hYw
        go_upto_region 14 with (go_at_call 46;refine Hk.out.mono ?_;rintro e wT ⟨vT,V,code,rfl,hx,hnT,hlT,hb⟩;obtain ⟨dv,cs,rfl,hx⟩:=hx;obtain ⟨t1,t2,t3,t4,t5,t6,t7,t8,rfl⟩:=hx.seven;have HXT:=zH hx;have HnT:=zH hnT;have HlT:=zH hlT;have HTT:=zH (H3.out.step hb);have hwT : (w.heap.size + 3) ≤ wT.heap.size:=Nat.le_trans Hsz9.out hb.size;clear hx hb hnT hlT)
        have hBt:=heap_alloc_new wT (.cells #[.int .i64 V.kind,.int .i64 V.num,.string V.text,.slice t1 V.kids.length t2,.slice t3 V.keys.length t4,.slice t5 V.ents.length t6,.slice t7 V.labels.length t8] 28)
        have hbt : Below wT.heap.size wT (wT.alloc (.cells #[.int .i64 V.kind,.int .i64 V.num,.string V.text,.slice t1 V.kids.length t2,.slice t3 V.keys.length t4,.slice t5 V.ents.length t6,.slice t7 V.labels.length t8] 28)):=(Below.refl _ _).alloc (Nat.le_refl _) _
        generalize wT.alloc (.cells #[.int .i64 V.kind,.int .i64 V.num,.string V.text,.slice t1 V.kids.length t2,.slice t3 V.keys.length t4,.slice t5 V.ents.length t6,.slice t7 V.labels.length t8] 28) = wU at *
        obtain ⟨⟨f0,f1,f2,f3⟩,f4,f5,f6⟩:=t0f hBt
        have HU:=zH (HTT.out.step hbt);have HXU:=zH (t5u hbt HXT.out)
        have hsU : (w.heap.size + 3) ≤ wU.heap.size:=Nat.le_trans hwT hbt.size
        have HZU:=zH (HU.out.block (k:=w.heap.size + 2) (by omega) (by omega))
        have ZU:=zH (HZU.out.trans HO.out)
        clear hBt hbt
        by_cases hcode : code = 0
        · have d7 : (code == 0) = true:=by simp [hcode]
          clear hcode
          go_wp2_with (with_reducible refine wpList_store_row rfl 28 (.tmp 8) (.tmp 88) rfl _ _ rfl rfl _ _ ZU.out (by kernel_rfl) (by kernel_rfl) (by kernel_rfl) ?_)
          refine bodyPost_ret (results_cell_row rfl _ _ (w.heap.size + 2) 28 _ (0,0) _ rfl (setRow_heap _ _ _ _ _ _ ZU.out) rfl rfl (by kernel_rfl)) rfl ?_
          refine ⟨_,V,rfl,t1v ⟨dv,_,rfl,HXU.out⟩ HEx.out HEl.out _,⟨?_,HlT.out⟩,(H2.out.trans HU.out).row (by omega) Hb.out _⟩
          refine Nat.le_trans HnT.out ?_
          have:=t2l HN.out
          have:=Nat.mul_le_mul_right N (show (l).length ≤ 4 by first | omega | (simp;omega))
          omega
        · have d7 : (code == 0) = false:=by simp [hcode]
          clear hcode f0 f1 f2 f3 f4 f5 f6
          go_wp2_with (first
            | (go_at_call 43;refine (t3f wU).mono ?_;rintro e wL ⟨rfl,hb⟩;have HL:=zH (HU.out.step hb);have ZL:=zH ((hb.block _ (t0a ZU.out)).trans ZU.out);clear hb)
            | (with_reducible refine wpList_store_row rfl 28 (.tmp 8) (.tmp 87) rfl _ _ rfl rfl _ _ ZL.out (by kernel_rfl) (by kernel_rfl) (by kernel_rfl) ?_))
          refine bodyPost_ret (results_cell_row rfl _ _ (w.heap.size + 2) 28 _ (0,0) _ rfl (setRow_heap _ _ _ _ _ _ ZL.out) rfl rfl (by kernel_rfl)) rfl ?_
          exact ⟨_,_,rfl,vw0 _ _ _ _,⟨(by show VV.nodes _ ≤ _;simp [VV.nodes,nodesVs,nodesEs]),rfl⟩,(H2.out.trans HL.out).row (by omega) Hb.out _⟩

      · clear gn
        go_upto_region 11 with (go_at_call 24;refine (t0z S 2 w3 (Hsr.out.trans Hs3.out).src (by omega)).mono ?_;rintro e w4 ⟨y,rfl,hs,h2,h3,-⟩;have h3:=h3 (by decide);have Hs4:=zH hs;clear hs;rcases (show y = 0 ∨ y = 1 by omega) with rfl | rfl)
        · have hBk:=heap_alloc_new w4 (.cells #[.int .i64 0,.string ⟨#[111,116,104,101,114]⟩] 73)
          have hbk : Below w4.heap.size w4 (w4.alloc (.cells #[.int .i64 0,.string ⟨#[111,116,104,101,114]⟩] 73)):=(Below.refl _ _).alloc (Nat.le_refl _) _
          generalize w4.alloc (.cells #[.int .i64 0,.string ⟨#[111,116,104,101,114]⟩] 73) = w5 at *
          have hk4 : w4.heap.size < w5.heap.size:=t0a hBk
          have HBk:=zH hBk
          have hq4 : wr.heap.size ≤ w4.heap.size:=(Hs3.out.trans Hs4.out).size
          have Hs5:=zH ((Hs3.out.trans Hs4.out).step hbk)
          have H5:=zH (Hsr.out.trans Hs5.out)
          have hw5 : (w.heap.size + 3) ≤ w5.heap.size:=Nat.le_trans hsz2 Hs5.out.size
          have HoY5:=zH (Hs5.out.owns HoY.out (by omega));have HoK5:=zH (Hs5.out.owns Ho.out (by omega))
          obtain ⟨k0,k1⟩:=t0k hBk
          clear hBk hbk
          generalize w4.heap.size = bk at *
          have HnY:=zH (show ∀ i,wr.heap.size ≤ i → (Value.slice py Y.length cy).ownBlock ≠ some i from fun i hi e=>absurd (HoY.out.lt i e).2 (by omega))
          have HnK:=zH (show ∀ i,wr.heap.size ≤ i → (Value.slice pk l.length ck).ownBlock ≠ some i from fun i hi e=>absurd (Ho.out.lt i e).2 (by omega))
          go_upto_region 12 with (at_builtin;(refine t0n rfl (.tmp 62) (.tmp 64) 24 rfl 73 (by kernel_rfl) t2z rfl (by decide) (by decide) (w.heap.size + 3) _ w5.heap.size [.int .i64 0,.string ⟨#[111,116,104,101,114]⟩] (heap_alloc_new w5 _) (Nat.le_trans hw5 (by simp)) rfl (by intro u hu;simp at hu;rcases hu with rfl | rfl <;> rfl) (.slice py Y.length cy) Y.length ys rfl (t0d HoY5.out ((Below.refl _ _).alloc (Nat.le_refl _) _) (Nat.le_refl _)) (by omega) rfl ?_);intro v6 w6 ho6 hf6;have Hf6:=zH hf6;have hb6:=(hf6.below (Nat.le_trans hw5 (by simp)) (by simp) fun g hg=>(HoY5.out.lt g hg).1);have hal6:=(Below.refl w5.heap.size w5).alloc (Nat.le_refl _) (.cells #[.int .i64 0,.string ⟨#[111,116,104,101,114]⟩] 73);have Hb6:=zH ((hal6.mono hw5).trans hb6);obtain ⟨p6,c6,rfl⟩:=t0r ho6;have HoY6:=zH ho6;have HoK6:=zH (t2m (t0d HoK5.out hal6 (Nat.le_refl _)) (t0d HoY5.out hal6 (Nat.le_refl _)) (by decide) hf6);have H6:=zH (H5.out.app (Hb6.out.mono (by omega)));have hc6 : Ch 7 (VS (we (aE (w.heap.size + 3) (.slice pk l.length ck) (.slice p6 (Y.length + 1) c6)) w6) d) l xs:=(by rw [t3u];exact Hc.out.mono fun x cs _ h=>(((by rw [t3u] at h;exact h.below (by rw [t0j];exact Hs5.out.we (aE_b (by omega))) : VS (we (aE (w.heap.size + 3) (.slice py Y.length cy) (.slice pk l.length ck)) w5) d x cs).below (by rw [t0j];exact t1l hal6)).sub (t4g hf6)));have Hc6:=zH hc6;have HBk6:=zH ((hf6.block bk (Nat.lt_of_lt_of_le hk4 hal6.size) (by simp) (HnY.out _ hq4)).trans ((hal6.block bk hk4).trans HBk.out));have hw6 : (w.heap.size + 3) ≤ w6.heap.size:=Nat.le_trans hw5 (Nat.le_trans hal6.size hf6.size);clear ho6 hf6 hb6 hal6 hc6)
          clear k0 k1
          have hk6:=t0a HBk6.out
          obtain ⟨k0,k1⟩:=t0k HBk6.out
          have hr : w6.cell? ⟨w.heap.size + 1,6,none⟩ = _:=t1p H6.out HGr0.out (by omega) (by omega)
          have t0 : w6.cell? ⟨w.heap.size,0,none⟩ = _:=t1p H6.out HGt0.out (by omega) (by omega)
          have t1 : w6.cell? ⟨w.heap.size,1,none⟩ = _:=t1p H6.out HGt1.out (by omega) (by omega)
          have YT:=zH (show w6.drew.cell? ⟨w.heap.size,0,none⟩ = _ from t0)
          have YN:=zH (show w6.drew.cell? ⟨w.heap.size + 1,6,none⟩ = _ from hr)
          have YK:=zH (show w6.drew.cell? ⟨bk,0,none⟩ = _ from k0)
          go_upto_region 13 with (first
            | ((with_reducible refine Lex.t0w ?_);refine fE (by repeat first | exact LexK.t0t | refine LexK.t0o rfl ?_ | refine LexK.t0p (by decide +kernel) ?_ | refine LexK.t0c rfl (.inl ⟨by omega,by omega⟩) YT.out ?_ | refine LexK.t0c rfl (.inl ⟨by omega,by omega⟩) YN.out ?_ | refine LexK.t0c rfl (.inr (Eq.refl _)) YK.out ?_) ?_)
            | ((with_reducible refine Lex.t0q ?_);refine LexK.t0h (fun x=>(x < (w.heap.size + 3) ∧ x ≠ S.b) ∨ x = bk) (by kernel_rfl) (by decide +kernel) ?_)
            | (with_reducible first | refine qH ?_ | refine LexK.t0s ?_ | refine LexK.t0v ?_)
            | ((with_reducible refine Lex.t1b ?_);first | (refine LexK.t0e hex7.out ?_) | (refine LexK.t0e hex8.out ?_) | (refine LexK.t0e (LexK.Ext.alloc _ _) ?_) | (refine LexK.t0e (LexK.Ext.refl _) ?_))
            | (go_at_call 25;refine (HV.out n.rest0 w6.drew H6.out.drew.src (HT.out.sr H6.out.drew)).mono ?_;rintro e w7 ⟨v7,X,rfl,hx,hq,hs⟩;obtain ⟨dv,cs,rfl,hx⟩:=hx;obtain ⟨x1,x2,x3,x4,x5,x6,x7,x8,rfl⟩:=hx.seven;have HX:=zH hx;have Hq:=zH hq.2;have hex7:=zH (show LexK.Ext (fun x=>(x < (w.heap.size + 3) ∧ x ≠ S.b) ∨ x = bk) w6.drew w7 from thd hs fun i _ e=>by rcases e with e | e <;> omega);have Hs7:=zH ((SR.refl H6.out.src).drew.trans hs);have HoK7:=zH (hs.owns (t1s HoK6.out) (by omega));have HoY7:=zH (hs.owns (t1s HoY6.out) (by omega));have Hone:=zH hx.one;have hw7 : (w.heap.size + 3) ≤ w7.heap.size:=(Nat.le_trans hw6 hs.size);clear hx hq hs)
            | (at_builtin;(refine t0n rfl (.tmp 66) (.tmp 77) 23 rfl 28 (by kernel_rfl) t1w rfl (by decide) (by decide) (w.heap.size + 3) _ w7.heap.size [.int .i64 X.kind,.int .i64 X.num,.string X.text,.slice x1 X.kids.length x2,.slice x3 X.keys.length x4,.slice x5 X.ents.length x6,.slice x7 X.labels.length x8] (heap_alloc_new w7 _) (Nat.le_trans hw7 (by simp)) rfl Hone.out (.slice pk l.length ck) l.length xs rfl (t0d HoK7.out ((Below.refl _ _).alloc (Nat.le_refl _) _) (Nat.le_refl _)) (by omega) rfl ?_);intro v8 w8 ho8 hf8;have Hf8:=zH hf8;have hb8:=(hf8.below (Nat.le_trans hw7 (by simp)) (by simp) fun g hg=>(HoK7.out.lt g hg).1);have hex8:=zH (show LexK.Ext (fun x=>(x < (w.heap.size + 3) ∧ x ≠ S.b) ∨ x = bk) (w7.alloc (.cells #[.int .i64 X.kind,.int .i64 X.num,.string X.text,.slice x1 X.kids.length x2,.slice x3 X.keys.length x4,.slice x5 X.ents.length x6,.slice x7 X.labels.length x8] 28)) w8 from tf9 hf8 fun i _ e g=>by rcases e with e | e;exact absurd (HoK7.out.lt i g).1 (by omega);exact HnK.out i (by omega) g);have hal8:=(Below.refl w7.heap.size w7).alloc (Nat.le_refl _) (.cells #[.int .i64 X.kind,.int .i64 X.num,.string X.text,.slice x1 X.kids.length x2,.slice x3 X.keys.length x4,.slice x5 X.ents.length x6,.slice x7 X.labels.length x8] 28);have Hb8:=zH ((hal8.mono hw7).trans hb8);have HoK8:=zH ho8;have HoY8:=zH (t2m (t0d HoY7.out hal8 (Nat.le_refl _)) (t0d HoK7.out hal8 (Nat.le_refl _)) (by decide) hf8);clear ho8 hf8 hb8 hal8))
          have hcA:=t4z Hc6.out Hs7.out (by omega) HX.out (t3g HoK6.out HoY6.out hw6) Hf8.out
          have HoY9 : w8.ownsRow (w.heap.size + 3) 73 2 (.slice p6 (Y.length + 1) c6) (Y ++ [⟨0,⟨#[111,116,104,101,114]⟩⟩] : List KK).length (ys ++ [.int .i64 0,.string ⟨#[111,116,104,101,114]⟩]):=by rw [List.length_append];exact HoY8.out
          have HoK9 : w8.ownsRow (w.heap.size + 3) 28 7 v8 (l ++ [X]).length (xs ++ [.int .i64 X.kind,.int .i64 X.num,.string X.text,.slice x1 X.kids.length x2,.slice x3 X.keys.length x4,.slice x5 X.ents.length x6,.slice x7 X.labels.length x8]):=by rw [List.length_append];exact HoK8.out
          have HN9 : ∀ x ∈ l ++ [X],x.nodes ≤ N:=fun x hx=>by
            rcases List.mem_append.1 hx with hx | hx
            · exact HN.out x hx
            · rw [List.mem_singleton.1 hx];exact Hq.out
          have H9:=zH ((H6.out.trans Hs7.out).app (Hb8.out.mono (show w2.heap.size ≤ (w.heap.size + 3) by omega)))
          have hw8 : (w.heap.size + 3) ≤ w8.heap.size:=Nat.le_trans hw7 (Nat.le_trans (by simp) Hf8.out.size)
          have hlen : l.length ≤ 3:=by omega
          generalize hd9 : max d dv = d9' at *
          clear hd9
          have HcE:=hcA.mono fun x cs _ h=>h.sub (aE_lo _ _ _ _)
          obtain ⟨pz,cz,ez,hrw⟩:=t1o (t1q HoK9 (t1g _)) HcE (by first | omega | (simp;omega))
          obtain ⟨pu,cu,eu,hru⟩:=t1o (t1q HoY9 (t1g _)) (HcY.out.append (Ch.single (P:=KC) (x:=⟨0,⟨#[111,116,104,101,114]⟩⟩) (cs:=[.int .i64 0,.string ⟨#[111,116,104,101,114]⟩]) rfl rfl)) (by first | omega | (simp;omega))
          have hYw:=H9.out.size
          have Hsz9:=zH (show (w.heap.size + 3) ≤ w8.heap.size from hw8)
          have Hk:=zH (t7b (lo (w.heap.size + 3)) (Y ++ [⟨0,⟨#[111,116,104,101,114]⟩⟩]) (l ++ [X]) w8 (.slice p6 (Y.length + 1) c6) v8 ((t1g _).mono Hsz9.out) ⟨pu,cu,eu,hru⟩ ⟨d9',pz,cz,ez,hrw⟩ (by first | omega | (simp;omega)))
          clear ez hrw HcE eu hru hYw
          go_upto_region 14 with (go_at_call 46;refine Hk.out.mono ?_;rintro e wT ⟨vT,V,code,rfl,hx,hnT,hlT,hb⟩;obtain ⟨dv,cs,rfl,hx⟩:=hx;obtain ⟨t1,t2,t3,t4,t5,t6,t7,t8,rfl⟩:=hx.seven;have HXT:=zH hx;have HnT:=zH hnT;have HlT:=zH hlT;have HTT:=zH (H9.out.step hb);have hwT : (w.heap.size + 3) ≤ wT.heap.size:=Nat.le_trans Hsz9.out hb.size;clear hx hb hnT hlT)
          have hBt:=heap_alloc_new wT (.cells #[.int .i64 V.kind,.int .i64 V.num,.string V.text,.slice t1 V.kids.length t2,.slice t3 V.keys.length t4,.slice t5 V.ents.length t6,.slice t7 V.labels.length t8] 28)
          have hbt : Below wT.heap.size wT (wT.alloc (.cells #[.int .i64 V.kind,.int .i64 V.num,.string V.text,.slice t1 V.kids.length t2,.slice t3 V.keys.length t4,.slice t5 V.ents.length t6,.slice t7 V.labels.length t8] 28)):=(Below.refl _ _).alloc (Nat.le_refl _) _
          generalize wT.alloc (.cells #[.int .i64 V.kind,.int .i64 V.num,.string V.text,.slice t1 V.kids.length t2,.slice t3 V.keys.length t4,.slice t5 V.ents.length t6,.slice t7 V.labels.length t8] 28) = wU at *
          obtain ⟨⟨f0,f1,f2,f3⟩,f4,f5,f6⟩:=t0f hBt
          have HU:=zH (HTT.out.step hbt);have HXU:=zH (t5u hbt HXT.out)
          have hsU : (w.heap.size + 3) ≤ wU.heap.size:=Nat.le_trans hwT hbt.size
          have HZU:=zH (HU.out.block (k:=w.heap.size + 2) (by omega) (by omega))
          have ZU:=zH (HZU.out.trans HO.out)
          clear hBt hbt
          by_cases hcode : code = 0
          · have d7 : (code == 0) = true:=by simp [hcode]
            clear hcode
            go_wp2_with (with_reducible refine wpList_store_row rfl 28 (.tmp 8) (.tmp 88) rfl _ _ rfl rfl _ _ ZU.out (by kernel_rfl) (by kernel_rfl) (by kernel_rfl) ?_)
            refine bodyPost_ret (results_cell_row rfl _ _ (w.heap.size + 2) 28 _ (0,0) _ rfl (setRow_heap _ _ _ _ _ _ ZU.out) rfl rfl (by kernel_rfl)) rfl ?_
            refine ⟨_,V,rfl,t1v ⟨dv,_,rfl,HXU.out⟩ HEx.out HEl.out _,⟨?_,HlT.out⟩,(H2.out.trans HU.out).row (by omega) Hb.out _⟩
            refine Nat.le_trans HnT.out ?_
            have:=t2l HN9
            have:=Nat.mul_le_mul_right N (show ((l ++ [X])).length ≤ 4 by first | omega | (simp;omega))
            omega
          · have d7 : (code == 0) = false:=by simp [hcode]
            clear hcode f0 f1 f2 f3 f4 f5 f6
            go_wp2_with (first
              | (go_at_call 43;refine (t3f wU).mono ?_;rintro e wL ⟨rfl,hb⟩;have HL:=zH (HU.out.step hb);have ZL:=zH ((hb.block _ (t0a ZU.out)).trans ZU.out);clear hb)
              | (with_reducible refine wpList_store_row rfl 28 (.tmp 8) (.tmp 87) rfl _ _ rfl rfl _ _ ZL.out (by kernel_rfl) (by kernel_rfl) (by kernel_rfl) ?_))
            refine bodyPost_ret (results_cell_row rfl _ _ (w.heap.size + 2) 28 _ (0,0) _ rfl (setRow_heap _ _ _ _ _ _ ZL.out) rfl rfl (by kernel_rfl)) rfl ?_
            exact ⟨_,_,rfl,vw0 _ _ _ _,⟨(by show VV.nodes _ ≤ _;simp [VV.nodes,nodesVs,nodesEs]),rfl⟩,(H2.out.trans HL.out).row (by omega) Hb.out _⟩
        · have hBk:=heap_alloc_new w4 (.cells #[.int .i64 1,.string ⟨#[111,116,104,101,114]⟩] 73)
          have hbk : Below w4.heap.size w4 (w4.alloc (.cells #[.int .i64 1,.string ⟨#[111,116,104,101,114]⟩] 73)):=(Below.refl _ _).alloc (Nat.le_refl _) _
          generalize w4.alloc (.cells #[.int .i64 1,.string ⟨#[111,116,104,101,114]⟩] 73) = w5 at *
          have hk4 : w4.heap.size < w5.heap.size:=t0a hBk
          have HBk:=zH hBk
          have hq4 : wr.heap.size ≤ w4.heap.size:=(Hs3.out.trans Hs4.out).size
          have Hs5:=zH ((Hs3.out.trans Hs4.out).step hbk)
          have H5:=zH (Hsr.out.trans Hs5.out)
          have hw5 : (w.heap.size + 3) ≤ w5.heap.size:=Nat.le_trans hsz2 Hs5.out.size
          have HoY5:=zH (Hs5.out.owns HoY.out (by omega));have HoK5:=zH (Hs5.out.owns Ho.out (by omega))
          obtain ⟨k0,k1⟩:=t0k hBk
          clear hBk hbk
          generalize w4.heap.size = bk at *
          have HnY:=zH (show ∀ i,wr.heap.size ≤ i → (Value.slice py Y.length cy).ownBlock ≠ some i from fun i hi e=>absurd (HoY.out.lt i e).2 (by omega))
          have HnK:=zH (show ∀ i,wr.heap.size ≤ i → (Value.slice pk l.length ck).ownBlock ≠ some i from fun i hi e=>absurd (Ho.out.lt i e).2 (by omega))
          go_upto_region 12 with (at_builtin;(refine t0n rfl (.tmp 62) (.tmp 64) 24 rfl 73 (by kernel_rfl) t2z rfl (by decide) (by decide) (w.heap.size + 3) _ w5.heap.size [.int .i64 1,.string ⟨#[111,116,104,101,114]⟩] (heap_alloc_new w5 _) (Nat.le_trans hw5 (by simp)) rfl (by intro u hu;simp at hu;rcases hu with rfl | rfl <;> rfl) (.slice py Y.length cy) Y.length ys rfl (t0d HoY5.out ((Below.refl _ _).alloc (Nat.le_refl _) _) (Nat.le_refl _)) (by omega) rfl ?_);intro v6 w6 ho6 hf6;have Hf6:=zH hf6;have hb6:=(hf6.below (Nat.le_trans hw5 (by simp)) (by simp) fun g hg=>(HoY5.out.lt g hg).1);have hal6:=(Below.refl w5.heap.size w5).alloc (Nat.le_refl _) (.cells #[.int .i64 1,.string ⟨#[111,116,104,101,114]⟩] 73);have Hb6:=zH ((hal6.mono hw5).trans hb6);obtain ⟨p6,c6,rfl⟩:=t0r ho6;have HoY6:=zH ho6;have HoK6:=zH (t2m (t0d HoK5.out hal6 (Nat.le_refl _)) (t0d HoY5.out hal6 (Nat.le_refl _)) (by decide) hf6);have H6:=zH (H5.out.app (Hb6.out.mono (by omega)));have hc6 : Ch 7 (VS (we (aE (w.heap.size + 3) (.slice pk l.length ck) (.slice p6 (Y.length + 1) c6)) w6) d) l xs:=(by rw [t3u];exact Hc.out.mono fun x cs _ h=>(((by rw [t3u] at h;exact h.below (by rw [t0j];exact Hs5.out.we (aE_b (by omega))) : VS (we (aE (w.heap.size + 3) (.slice py Y.length cy) (.slice pk l.length ck)) w5) d x cs).below (by rw [t0j];exact t1l hal6)).sub (t4g hf6)));have Hc6:=zH hc6;have HBk6:=zH ((hf6.block bk (Nat.lt_of_lt_of_le hk4 hal6.size) (by simp) (HnY.out _ hq4)).trans ((hal6.block bk hk4).trans HBk.out));have hw6 : (w.heap.size + 3) ≤ w6.heap.size:=Nat.le_trans hw5 (Nat.le_trans hal6.size hf6.size);clear ho6 hf6 hb6 hal6 hc6)
          clear k0 k1
          have hk6:=t0a HBk6.out
          obtain ⟨k0,k1⟩:=t0k HBk6.out
          have hr : w6.cell? ⟨w.heap.size + 1,7,none⟩ = _:=t1p H6.out HGr1.out (by omega) (by omega)
          have t0 : w6.cell? ⟨w.heap.size,0,none⟩ = _:=t1p H6.out HGt0.out (by omega) (by omega)
          have t1 : w6.cell? ⟨w.heap.size,1,none⟩ = _:=t1p H6.out HGt1.out (by omega) (by omega)
          have YT:=zH (show w6.drew.cell? ⟨w.heap.size,0,none⟩ = _ from t0)
          have YN:=zH (show w6.drew.cell? ⟨w.heap.size + 1,7,none⟩ = _ from hr)
          have YK:=zH (show w6.drew.cell? ⟨bk,0,none⟩ = _ from k0)
          go_upto_region 13 with (first
            | ((with_reducible refine Lex.t0w ?_);refine fE (by repeat first | exact LexK.t0t | refine LexK.t0o rfl ?_ | refine LexK.t0p (by decide +kernel) ?_ | refine LexK.t0c rfl (.inl ⟨by omega,by omega⟩) YT.out ?_ | refine LexK.t0c rfl (.inl ⟨by omega,by omega⟩) YN.out ?_ | refine LexK.t0c rfl (.inr (Eq.refl _)) YK.out ?_) ?_)
            | ((with_reducible refine Lex.t0q ?_);refine LexK.t0h (fun x=>(x < (w.heap.size + 3) ∧ x ≠ S.b) ∨ x = bk) (by kernel_rfl) (by decide +kernel) ?_)
            | (with_reducible first | refine qH ?_ | refine LexK.t0s ?_ | refine LexK.t0v ?_)
            | ((with_reducible refine Lex.t1b ?_);first | (refine LexK.t0e hex7.out ?_) | (refine LexK.t0e hex8.out ?_) | (refine LexK.t0e (LexK.Ext.alloc _ _) ?_) | (refine LexK.t0e (LexK.Ext.refl _) ?_))
            | (go_at_call 25;refine (HV.out n.rest1 w6.drew H6.out.drew.src (HT.out.sr H6.out.drew)).mono ?_;rintro e w7 ⟨v7,X,rfl,hx,hq,hs⟩;obtain ⟨dv,cs,rfl,hx⟩:=hx;obtain ⟨x1,x2,x3,x4,x5,x6,x7,x8,rfl⟩:=hx.seven;have HX:=zH hx;have Hq:=zH hq.2;have hex7:=zH (show LexK.Ext (fun x=>(x < (w.heap.size + 3) ∧ x ≠ S.b) ∨ x = bk) w6.drew w7 from thd hs fun i _ e=>by rcases e with e | e <;> omega);have Hs7:=zH ((SR.refl H6.out.src).drew.trans hs);have HoK7:=zH (hs.owns (t1s HoK6.out) (by omega));have HoY7:=zH (hs.owns (t1s HoY6.out) (by omega));have Hone:=zH hx.one;have hw7 : (w.heap.size + 3) ≤ w7.heap.size:=(Nat.le_trans hw6 hs.size);clear hx hq hs)
            | (at_builtin;(refine t0n rfl (.tmp 66) (.tmp 77) 23 rfl 28 (by kernel_rfl) t1w rfl (by decide) (by decide) (w.heap.size + 3) _ w7.heap.size [.int .i64 X.kind,.int .i64 X.num,.string X.text,.slice x1 X.kids.length x2,.slice x3 X.keys.length x4,.slice x5 X.ents.length x6,.slice x7 X.labels.length x8] (heap_alloc_new w7 _) (Nat.le_trans hw7 (by simp)) rfl Hone.out (.slice pk l.length ck) l.length xs rfl (t0d HoK7.out ((Below.refl _ _).alloc (Nat.le_refl _) _) (Nat.le_refl _)) (by omega) rfl ?_);intro v8 w8 ho8 hf8;have Hf8:=zH hf8;have hb8:=(hf8.below (Nat.le_trans hw7 (by simp)) (by simp) fun g hg=>(HoK7.out.lt g hg).1);have hex8:=zH (show LexK.Ext (fun x=>(x < (w.heap.size + 3) ∧ x ≠ S.b) ∨ x = bk) (w7.alloc (.cells #[.int .i64 X.kind,.int .i64 X.num,.string X.text,.slice x1 X.kids.length x2,.slice x3 X.keys.length x4,.slice x5 X.ents.length x6,.slice x7 X.labels.length x8] 28)) w8 from tf9 hf8 fun i _ e g=>by rcases e with e | e;exact absurd (HoK7.out.lt i g).1 (by omega);exact HnK.out i (by omega) g);have hal8:=(Below.refl w7.heap.size w7).alloc (Nat.le_refl _) (.cells #[.int .i64 X.kind,.int .i64 X.num,.string X.text,.slice x1 X.kids.length x2,.slice x3 X.keys.length x4,.slice x5 X.ents.length x6,.slice x7 X.labels.length x8] 28);have Hb8:=zH ((hal8.mono hw7).trans hb8);have HoK8:=zH ho8;have HoY8:=zH (t2m (t0d HoY7.out hal8 (Nat.le_refl _)) (t0d HoK7.out hal8 (Nat.le_refl _)) (by decide) hf8);clear ho8 hf8 hb8 hal8))
          have hcA:=t4z Hc6.out Hs7.out (by omega) HX.out (t3g HoK6.out HoY6.out hw6) Hf8.out
          have HoY9 : w8.ownsRow (w.heap.size + 3) 73 2 (.slice p6 (Y.length + 1) c6) (Y ++ [⟨1,⟨#[111,116,104,101,114]⟩⟩] : List KK).length (ys ++ [.int .i64 1,.string ⟨#[111,116,104,101,114]⟩]):=by rw [List.length_append];exact HoY8.out
          have HoK9 : w8.ownsRow (w.heap.size + 3) 28 7 v8 (l ++ [X]).length (xs ++ [.int .i64 X.kind,.int .i64 X.num,.string X.text,.slice x1 X.kids.length x2,.slice x3 X.keys.length x4,.slice x5 X.ents.length x6,.slice x7 X.labels.length x8]):=by rw [List.length_append];exact HoK8.out
          have HN9 : ∀ x ∈ l ++ [X],x.nodes ≤ N:=fun x hx=>by
            rcases List.mem_append.1 hx with hx | hx
            · exact HN.out x hx
            · rw [List.mem_singleton.1 hx];exact Hq.out
          have H9:=zH ((H6.out.trans Hs7.out).app (Hb8.out.mono (show w2.heap.size ≤ (w.heap.size + 3) by omega)))
          have hw8 : (w.heap.size + 3) ≤ w8.heap.size:=Nat.le_trans hw7 (Nat.le_trans (by simp) Hf8.out.size)
          have hlen : l.length ≤ 3:=by omega
          generalize hd9 : max d dv = d9' at *
          clear hd9
          have HcE:=hcA.mono fun x cs _ h=>h.sub (aE_lo _ _ _ _)
          obtain ⟨pz,cz,ez,hrw⟩:=t1o (t1q HoK9 (t1g _)) HcE (by first | omega | (simp;omega))
          obtain ⟨pu,cu,eu,hru⟩:=t1o (t1q HoY9 (t1g _)) (HcY.out.append (Ch.single (P:=KC) (x:=⟨1,⟨#[111,116,104,101,114]⟩⟩) (cs:=[.int .i64 1,.string ⟨#[111,116,104,101,114]⟩]) rfl rfl)) (by first | omega | (simp;omega))
          have hYw:=H9.out.size
          have Hsz9:=zH (show (w.heap.size + 3) ≤ w8.heap.size from hw8)
          have Hk:=zH (t7b (lo (w.heap.size + 3)) (Y ++ [⟨1,⟨#[111,116,104,101,114]⟩⟩]) (l ++ [X]) w8 (.slice p6 (Y.length + 1) c6) v8 ((t1g _).mono Hsz9.out) ⟨pu,cu,eu,hru⟩ ⟨d9',pz,cz,ez,hrw⟩ (by first | omega | (simp;omega)))
          clear ez hrw HcE eu hru hYw
          go_upto_region 14 with (go_at_call 46;refine Hk.out.mono ?_;rintro e wT ⟨vT,V,code,rfl,hx,hnT,hlT,hb⟩;obtain ⟨dv,cs,rfl,hx⟩:=hx;obtain ⟨t1,t2,t3,t4,t5,t6,t7,t8,rfl⟩:=hx.seven;have HXT:=zH hx;have HnT:=zH hnT;have HlT:=zH hlT;have HTT:=zH (H9.out.step hb);have hwT : (w.heap.size + 3) ≤ wT.heap.size:=Nat.le_trans Hsz9.out hb.size;clear hx hb hnT hlT)
          have hBt:=heap_alloc_new wT (.cells #[.int .i64 V.kind,.int .i64 V.num,.string V.text,.slice t1 V.kids.length t2,.slice t3 V.keys.length t4,.slice t5 V.ents.length t6,.slice t7 V.labels.length t8] 28)
          have hbt : Below wT.heap.size wT (wT.alloc (.cells #[.int .i64 V.kind,.int .i64 V.num,.string V.text,.slice t1 V.kids.length t2,.slice t3 V.keys.length t4,.slice t5 V.ents.length t6,.slice t7 V.labels.length t8] 28)):=(Below.refl _ _).alloc (Nat.le_refl _) _
          generalize wT.alloc (.cells #[.int .i64 V.kind,.int .i64 V.num,.string V.text,.slice t1 V.kids.length t2,.slice t3 V.keys.length t4,.slice t5 V.ents.length t6,.slice t7 V.labels.length t8] 28) = wU at *
          obtain ⟨⟨f0,f1,f2,f3⟩,f4,f5,f6⟩:=t0f hBt
          have HU:=zH (HTT.out.step hbt);have HXU:=zH (t5u hbt HXT.out)
          have hsU : (w.heap.size + 3) ≤ wU.heap.size:=Nat.le_trans hwT hbt.size
          have HZU:=zH (HU.out.block (k:=w.heap.size + 2) (by omega) (by omega))
          have ZU:=zH (HZU.out.trans HO.out)
          clear hBt hbt
          by_cases hcode : code = 0
          · have d7 : (code == 0) = true:=by simp [hcode]
            clear hcode
            go_wp2_with (with_reducible refine wpList_store_row rfl 28 (.tmp 8) (.tmp 88) rfl _ _ rfl rfl _ _ ZU.out (by kernel_rfl) (by kernel_rfl) (by kernel_rfl) ?_)
            refine bodyPost_ret (results_cell_row rfl _ _ (w.heap.size + 2) 28 _ (0,0) _ rfl (setRow_heap _ _ _ _ _ _ ZU.out) rfl rfl (by kernel_rfl)) rfl ?_
            refine ⟨_,V,rfl,t1v ⟨dv,_,rfl,HXU.out⟩ HEx.out HEl.out _,⟨?_,HlT.out⟩,(H2.out.trans HU.out).row (by omega) Hb.out _⟩
            refine Nat.le_trans HnT.out ?_
            have:=t2l HN9
            have:=Nat.mul_le_mul_right N (show ((l ++ [X])).length ≤ 4 by first | omega | (simp;omega))
            omega
          · have d7 : (code == 0) = false:=by simp [hcode]
            clear hcode f0 f1 f2 f3 f4 f5 f6
            go_wp2_with (first
              | (go_at_call 43;refine (t3f wU).mono ?_;rintro e wL ⟨rfl,hb⟩;have HL:=zH (HU.out.step hb);have ZL:=zH ((hb.block _ (t0a ZU.out)).trans ZU.out);clear hb)
              | (with_reducible refine wpList_store_row rfl 28 (.tmp 8) (.tmp 87) rfl _ _ rfl rfl _ _ ZL.out (by kernel_rfl) (by kernel_rfl) (by kernel_rfl) ?_))
            refine bodyPost_ret (results_cell_row rfl _ _ (w.heap.size + 2) 28 _ (0,0) _ rfl (setRow_heap _ _ _ _ _ _ ZL.out) rfl rfl (by kernel_rfl)) rfl ?_
            exact ⟨_,_,rfl,vw0 _ _ _ _,⟨(by show VV.nodes _ ≤ _;simp [VV.nodes,nodesVs,nodesEs]),rfl⟩,(H2.out.trans HL.out).row (by omega) Hb.out _⟩
end Go.Proofs.YtjgldaaofdpcgaaGreat
