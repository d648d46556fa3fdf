/- Walks and plain facts for the laws of membership, for all values and types that the heap holds (texts A7). -/
import Derived.Test.YtjgldaaofdpcgaaGreatW03
import Derived.Test.YtjgldaaofdpcgaaGreatW37
set_option linter.unusedVariables false
set_option linter.unusedSimpArgs false
namespace Go.Proofs.YtjgldaaofdpcgaaGreat
open Go.RowKit Go.Ident
set_option maxRecDepth 100000
theorem t4k {S : SD} {w : World} {p : Option Addr} {c : Nat} {ks : List Int} {i : Nat} (h : IS (wo S.b w) (.slice p ks.length c) ks) (hi : i < ks.length) :
    ∃ a o,p = some ⟨a,o,none⟩ ∧ a ≠ S.b ∧ a < w.heap.size ∧ ∀ w',SR S w w' → w'.cell? ⟨a,o + i,none⟩ = some (.int .i64 ks[i]):=by
  obtain ⟨p',c',e,h1,h2⟩:=h
  injection e with e1 e2 e3
  subst e1
  obtain ⟨a,o,rfl,hl,hr⟩:=h2.2 (by omega)
  have hz : (ic ks)[i]? = some (.int .i64 ks[i]):=by simp [ic,hi]
  have h0:=t1j (hr i _ hz)
  refine ⟨a,o,rfl,by have:=h0.1;simpa using this,by rwa [t1e] at hl,fun w' hs=>?_⟩
  exact t0l ((hs.bel.cell (p:=⟨a,o + i,none⟩) hl).trans (hr i _ hz))
theorem tcg {A : List VV} {r : VV} {N : Nat} (hA : ∀ x ∈ A,x.nodes ≤ N) (hl : A.length ≤ 2) (hr : r.nodes ≤ N) (b : Bool) : (EE.mk A b r).nodes ≤ 3 * N:=by
  have h1:=t2l hA
  have h2:=Nat.mul_le_mul_right N hl
  rw [t5e]
  cases b
  · simp only [EE.parts,EE.args,EE.fails,EE.res,Bool.false_eq_true,if_false,List.map_append,List.sum_append,List.map_cons,List.map_nil,List.sum_cons,List.sum_nil];omega
  · simp only [EE.parts,EE.args,EE.fails,if_true,List.append_nil];omega
theorem tfx (n : Int) (l : List EE) : (mkF n l).1.labels = []:=by unfold mkF;split <;> rfl
set_option maxHeartbeats 64000000 in
theorem te1 (T : Ty) (tv : Value) (N : Nat) (S : SD) (h : Int) (n : TN) (ns : List Value) (q : Nat) (hN : 1 ≤ N) (h1 : 1 ≤ h) (hh : h ≤ 1000) (hkl : n.kids.length = q + 1) (hq2 : q ≤ 2) (hv : ∀ k,NV T tv N S k (h - 1)) (w : World) (hS : SRC S w) (hT : TB S T tv w) (hn : NC (wo S.b w) n ns) :
    Calls Tryz.prog 78 #[.pointer (some ⟨S.b,0,none⟩),tv,.agg ns.toArray,.int .i64 h] w (GV (fun V=>V.nodes ≤ 1 + 6 * N ∧ V.labels = []) S w):=by
  have HV:=zH hv
  have Hkl:=zH hkl
  have hka : 1 ≤ n.kids.length:=by omega
  have hkb : n.kids.length ≤ 3:=by omega
  clear hkl
  obtain ⟨pT,cT,rfl,-,-⟩:=id hT
  obtain ⟨p1,c1,p2,c2,rfl,hK,-⟩:=hn
  have hltS:=hS.lt
  obtain ⟨w2,e9,hA,hB,hC,hb,hs2⟩:=boxes3' w (.cells #[.slice pT T.nodes.length cT,.int .i64 T.root] 31) (.cells #[.int .i64 n.kind,.int .i64 n.lo,.int .i64 n.hi,.string n.text,.slice p1 n.kids.length c1,.slice p2 n.fields.length c2,.int .i64 n.rest0,.int .i64 n.rest1] 48) (.cells #[.int .i64 0,.int .i64 0,.string ⟨#[]⟩,.slice none 0 0,.slice none 0 0,.slice none 0 0,.slice none 0 0] 28)
  have H2:=zH ((SR.refl hS).app hb)
  have Hb:=zH (show w.heap.size + 2 ≠ S.b by omega)
  have HEx:=zH (show lo (w.heap.size + 3) (w.heap.size + 2) = true by simp [lo])
  have HEl:=zH (show ∀ k,k < w.heap.size → lo (w.heap.size + 3) k = true from fun k hk=>by simp [lo];omega)
  have HT:=zH (hT.sr H2.out)
  have HK0:=zH (show IS (wo S.b w2) (.slice p1 n.kids.length c1) n.kids from hK.below H2.out.bel)
  obtain ⟨g0,g1⟩:=t0k hA
  obtain ⟨⟨n0,n1,n2,n3⟩,n4,n5,n6,n7⟩:=t0y hB
  have HGt0:=zH g0;have HGt1:=zH g1;have HGn:=zH n4;have HO:=zH hC
  clear hA hB hC hb hS hT hv hK g0 g1 n0 n1 n2 n3 n5 n6 n7
  go_enter Tryz.func78,Tryz.ntmps78
  go_upto_region 1 with fail
  try rw [e9]
  clear e9
  go_upto_region 3 with fail
  rw [show (n.kids.length : Int) - 1 = (q : Int) by have:=Hkl.out;omega]
  clear n4
  go_wp2_with (go_at_call 24;refine (t0z S 3 w2 H2.out.src (by omega)).mono ?_;rintro e w3 ⟨y,rfl,hs,h0,h1,-⟩;have h1:=h1 (by decide);have H3:=zH hs;obtain ⟨m0,rfl⟩ : ∃ m : Nat,y = (m : Int):=⟨y.toNat,by omega⟩;have hm0 : m0 ≤ 2:=(by omega);clear hs)
  go_loopw [11,9] (fun mv lv wr=>∃ (m : Nat) (L : List EE) (xs : List Value) (dL : Nat),mv = .int .i64 (m : Int) ∧ m + L.length ≤ 2 ∧ wr.ownsRow (w.heap.size + 3) 55 9 lv L.length xs ∧ Ch 9 (ES (we (aE (w.heap.size + 3) lv (.slice none 0 0)) wr) dL) L xs ∧ (∀ x ∈ L,x.nodes ≤ 3 * N) ∧ SR S w2 wr) (fun mv _ _=>(intOf mv).toNat)
  case atStart=>exact ⟨m0,[],[],0,rfl,by simpa using hm0,World.ownsRow_nil _ _ _ _,Ch.nil,fun x hx=>by simp at hx,H3.out⟩
  case round =>
    obtain ⟨m,L,xs,dL,rfl,hmL,hoL,hcL,hNL,hsA⟩:=hrel
    obtain ⟨pl,cl,rfl⟩:=t0r hoL
    have HoL:=zH hoL;have HcL:=zH hcL;have HNL:=zH hNL;have HsA:=zH hsA
    have hsza : (w.heap.size + 3) ≤ wr.heap.size:=by have:=hsA.size;omega
    clear hoL hcL hNL hsA
    obtain ⟨wa,hwa⟩ : ∃ wa : World,wa = wr:=⟨_,rfl⟩
    subst hwa
    by_cases hm1 : 0 < m
    · have d9 : decide (0 < m) = true:=by simp [hm1]
      go_upto_region 7 with fail
      have hB3:=heap_alloc_new wa (.cells #[.slice none 0 0,.bool false,.int .i64 0,.int .i64 0,.string ⟨#[]⟩,.slice none 0 0,.slice none 0 0,.slice none 0 0,.slice none 0 0] 55)
      have hb3 : Below wa.heap.size wa (wa.alloc (.cells #[.slice none 0 0,.bool false,.int .i64 0,.int .i64 0,.string ⟨#[]⟩,.slice none 0 0,.slice none 0 0,.slice none 0 0,.slice none 0 0] 55)):=(Below.refl _ _).alloc (Nat.le_refl _) _
      generalize wa.alloc (.cells #[.slice none 0 0,.bool false,.int .i64 0,.int .i64 0,.string ⟨#[]⟩,.slice none 0 0,.slice none 0 0,.slice none 0 0,.slice none 0 0] 55) = wc at *
      have HB3:=zH hB3;have H3c:=zH ((SR.refl HsA.out.src).step hb3)
      obtain ⟨be,hbe⟩ : ∃ be,be = wa.heap.size:=⟨_,rfl⟩
      have HbeS:=zH (show be ≠ S.b by omega)
      rw [← hbe]
      rw [← hbe] at hB3
      have HB3:=zH hB3
      have hbe1 : (w.heap.size + 3) ≤ be:=by omega
      have hbe2 : wa.heap.size ≤ be:=by omega
      clear hB3 hb3 hbe
      go_wp2
      go_loopw [13] (fun iv wr=>∃ (j : Nat) (A : List VV) (ys : List Value) (dA : Nat) (av : Value),iv = .int .i64 (j : Int) ∧ j ≤ q ∧ A.length = j ∧ wr.heap[be]? = some (.cells #[av,.bool false,.int .i64 0,.int .i64 0,.string ⟨#[]⟩,.slice none 0 0,.slice none 0 0,.slice none 0 0,.slice none 0 0] 55) ∧ wr.ownsRow (be + 1) 28 7 av A.length ys ∧ Ch 7 (VS (we (aE (be + 1) av (.slice none 0 0)) wr) dA) A ys ∧ (∀ x ∈ A,x.nodes ≤ N) ∧ SR S wa wr) (fun iv _=>((q : Int) - intOf iv).toNat)
      case atStart=>exact ⟨0,[],[],0,.slice none 0 0,rfl,by omega,rfl,HB3.out,World.ownsRow_nil _ _ _ _,Ch.nil,fun x hx=>by simp at hx,H3c.out⟩
      case round =>
        obtain ⟨j,A,ys,dA,av,rfl,hj,hAl,hBr,ho,hc,hN2,hsr⟩:=hrel
        obtain ⟨pa,ca,rfl⟩:=t0r ho
        have HBr:=zH hBr;have Ho:=zH ho;have Hc:=zH hc;have HN:=zH hN2;have Hsr:=zH hsr;have HAl:=zH hAl
        have HsW:=zH (HsA.out.trans hsr)
        have hlBr:=t0a hBr
        have hsz3 : be + 1 ≤ wr.heap.size:=hlBr
        obtain ⟨⟨f0,f1,f2,f3⟩,⟨f4,f5,f6,f7⟩,f8⟩:=t1k hBr
        have gn : wr.cell? ⟨w.heap.size + 1,4,none⟩ = _:=t1p HsW.out HGn.out (by omega) (by omega)
        have t0 : wr.cell? ⟨w.heap.size,0,none⟩ = _:=t1p HsW.out HGt0.out (by omega) (by omega)
        have t1 : wr.cell? ⟨w.heap.size,1,none⟩ = _:=t1p HsW.out HGt1.out (by omega) (by omega)
        have Yn:=zH (show wr.drew.cell? ⟨w.heap.size + 1,4,none⟩ = _ from gn)
        have Yt:=zH (show wr.drew.cell? ⟨w.heap.size,0,none⟩ = _ from t0)
        have Ye:=zH (show wr.drew.cell? ⟨be,0,none⟩ = _ from f0)
        clear hBr ho hc hN2 hsr hAl
        by_cases hjq : j < q
        · have d10 : decide (j < q) = true:=by simp [hjq]
          obtain ⟨a,o,rfl,hab,hal,hcell⟩:=t4k HK0.out (show j < n.kids.length by have:=Hkl.out;omega)
          have Hab:=zH hab
          have hjk : j < n.kids.length:=by have:=Hkl.out;omega
          have djk : decide (j < n.kids.length) = true:=by simp [hjk]
          generalize n.kids[j] = kj at *
          have q0:=hcell _ HsW.out
          have Yk:=zH (show wr.drew.cell? ⟨a,o + j,none⟩ = _ from q0)
          clear hcell hab
          obtain ⟨wq,hwq⟩ : ∃ wq : World,wq = wr:=⟨_,rfl⟩
          subst hwq
          go_wp2_with (first
            | ((with_reducible refine Lex.t0w ?_);refine fE (by repeat first | exact LexK.t0t | refine LexK.t0o rfl ?_ | refine LexK.t0p (by decide +kernel) ?_ | refine LexK.t0c rfl ⟨by omega,HbeS.out⟩ Ye.out ?_ | refine LexK.t0c rfl ⟨by omega,by omega⟩ Yt.out ?_ | refine LexK.t0c rfl ⟨by omega,by omega⟩ Yn.out ?_ | refine LexK.t0c rfl ⟨by omega,Hab.out⟩ Yk.out ?_) ?_)
            | ((with_reducible refine Lex.t0q ?_);refine LexK.t0h (fun x=>x < be + 1 ∧ x ≠ S.b) (by kernel_rfl) (by decide +kernel) ?_)
            | (with_reducible first | refine qH ?_ | refine LexK.t0s ?_ | refine LexK.t0v ?_)
            | ((with_reducible refine Lex.t1b ?_);first | (refine LexK.t0e hex7.out ?_) | (refine LexK.t0e hex8.out ?_) | (refine LexK.t0e (LexK.Ext.alloc _ _) ?_) | (refine LexK.t0e (LexK.Ext.refl _) ?_))
            | (go_at_call 25;refine (HV.out _ wq.drew HsW.out.drew.src (HT.out.sr HsW.out.drew)).mono ?_;rintro e w7 ⟨v7,X,rfl,hx,hq,hs⟩;obtain ⟨dv,cs,rfl,hx⟩:=hx;obtain ⟨x1,x2,x3,x4,x5,x6,x7,x8,rfl⟩:=hx.seven;have HX:=zH hx;have Hq:=zH hq.2;have hex7:=zH (t2v hs (by exact hsz3));have Hs7:=zH ((SR.refl Hsr.out.src).drew.trans hs);have HoK7:=zH (hs.owns (t1s Ho.out) (by omega));have Hone:=zH hx.one;have hw7 : be + 1 ≤ w7.heap.size:=(Nat.le_trans hsz3 hs.size);clear hx hq hs)
            | (at_builtin;go_loud (refine t0n rfl (.tmp 32) (.tmp 43) 23 rfl 28 (by kernel_rfl) t1w rfl (by decide) (by decide) (be + 1) _ w7.heap.size [.int .i64 X.kind,.int .i64 X.num,.string X.text,.slice x1 X.kids.length x2,.slice x3 X.keys.length x4,.slice x5 X.ents.length x6,.slice x7 X.labels.length x8] (heap_alloc_new w7 _) (Nat.le_trans hw7 (by simp)) rfl Hone.out (.slice pa A.length ca) A.length ys rfl (t0d HoK7.out ((Below.refl _ _).alloc (Nat.le_refl _) _) (Nat.le_refl _)) (by have:=HAl.out;omega) rfl ?_);intro v8 w8 ho8 hf8;have hb8:=(hf8.below (Nat.le_trans hw7 (by simp)) (by simp) fun g hg=>(HoK7.out.lt g hg).1);have hex8:=zH (show LexK.Ext (fun x=>x < be + 1 ∧ x ≠ S.b) (w7.alloc (.cells #[.int .i64 X.kind,.int .i64 X.num,.string X.text,.slice x1 X.kids.length x2,.slice x3 X.keys.length x4,.slice x5 X.ents.length x6,.slice x7 X.labels.length x8] 28)) w8 from t4r hb8);have Hb8:=zH (((Below.refl w7.heap.size w7).alloc (Nat.le_refl _) (.cells #[.int .i64 X.kind,.int .i64 X.num,.string X.text,.slice x1 X.kids.length x2,.slice x3 X.keys.length x4,.slice x5 X.ents.length x6,.slice x7 X.labels.length x8] 28)).mono hw7 |>.trans hb8);obtain ⟨p8,c8,rfl⟩:=t0r ho8;have Ho8:=zH ho8;have hB8:=(Hb8.out.block be (by omega)).trans ((Hs7.out.block hlBr HbeS.out).trans HBr.out);have HU:=zH (Upd.set (i:=0) (v:=.slice p8 (A.length + 1) c8) (Upd.refl hB8));have hz0 : w8.cell? ⟨be,0,none⟩ = some (.slice pa A.length ca):=(by simp [World.cell?,hB8]);have hz1 : w8.frozen? ⟨be,0,none⟩ = false:=(by simp [World.frozen?,hB8]);have Hf8:=zH hf8;clear ho8 hf8 hb8 hB8))
          have hB9:=HU.out.blk
          have hcA:=t4z Hc.out Hs7.out (by omega) HX.out (t3g Ho.out (World.ownsRow_nil wq 0 0 0) hsz3) Hf8.out
          refine ⟨⟨j + 1,A ++ [X],ys ++ [.int .i64 X.kind,.int .i64 X.num,.string X.text,.slice x1 X.kids.length x2,.slice x3 X.keys.length x4,.slice x5 X.ents.length x6,.slice x7 X.labels.length x8],max dA dv,.slice p8 (A.length + 1) c8,by first | rfl | (congr 1),by omega,by rw [List.length_append,HAl.out];rfl,by simpa using hB9,by rw [List.length_append];exact t1r Ho8.out HU.out (by omega),?_,fun x hx=>?_,((Hsr.out.trans Hs7.out).app (Hb8.out.mono (by omega))).app (HU.out.below (by omega))⟩,by simp [intOf];omega⟩
          · exact hcA.mono fun x cs _ h=>h.below (by rw [t0j];exact t1n HU.out (aE_b (by omega)))
          · rcases List.mem_append.1 hx with hx | hx
            · exact HN.out x hx
            · rw [List.mem_singleton.1 hx];exact Hq.out
        · have d10 : decide (j < q) = false:=by simp;omega
          obtain rfl : j = q:=by omega
          have hA2 : A.length ≤ 2:=by have:=HAl.out;omega
          obtain ⟨wq,hwq⟩ : ∃ wq : World,wq = wr:=⟨_,rfl⟩
          subst hwq
          go_upto_region 12 with (go_at_call 24;refine (t0z S 6 wq Hsr.out.src (by omega)).mono ?_;rintro e w4 ⟨y,rfl,hs,h2,h3,-⟩;have h3:=h3 (by decide);have Hs4:=zH hs;clear hs;rcases (show y = 1 ∨ y ≠ 1 by omega) with rfl | hy)
          · have HB4:=zH ((Hs4.out.block hlBr HbeS.out).trans HBr.out)
            have hz0 : w4.cell? ⟨be,1,none⟩ = some (.bool false):=by simp [World.cell?,HB4.out]
            have hz1 : w4.frozen? ⟨be,1,none⟩ = false:=by simp [World.frozen?,HB4.out]
            have HU:=zH (Upd.set (i:=1) (v:=.bool true) (Upd.refl HB4.out))
            clear f0 f1 f2 f3 f4 f5 f6 f7 f8 gn t0 t1
            go_upto_region 14 with fail
            have hB5:=HU.out.blk
            have Ho5:=zH (t1r (Hs4.out.owns Ho.out (by omega)) HU.out (by omega))
            have HcE:=zH (show Ch 7 (VS (we (lo (be + 1)) (w4.setCell ⟨be,1,none⟩ (.bool true))) (max dA 1)) A ys from Hc.out.mono fun x cs _ h=>((((h.below (by rw [t0j];exact Hs4.out.we (aE_b (by omega)))).below (by rw [t0j];exact t1n HU.out (aE_b (by omega)))).sub (aE_lo _ _ _ _)).up (Nat.le_max_left _ _)))
            have H5:=zH ((Hsr.out.trans Hs4.out).app (HU.out.below (B:=wa.heap.size) (by omega)))
            have HoL5:=zH (H5.out.owns HoL.out (by omega))
            clear hz0 hz1
            generalize w4.setCell ⟨be,1,none⟩ (.bool true) = w5 at *
            simp at hB5
            obtain ⟨⟨f0,f1,f2,f3⟩,⟨f4,f5,f6,f7⟩,f8⟩:=t1k hB5
            have hwa5 : (w.heap.size + 3) ≤ w5.heap.size:=Nat.le_trans hsza H5.out.size
            obtain ⟨pz,cz,ez,hrw⟩:=t1o (t1q Ho5.out (t1g _)) HcE.out (by omega)
            injection ez with ez1 _ ez3
            subst ez1 ez3
            have HXE:=zH (show ES (we (lo wa.heap.size) w5) (max dA 1) (.mk A true zeroV) [.slice pa A.length ca,.bool true,.int .i64 0,.int .i64 0,.string ⟨#[]⟩,.slice none 0 0,.slice none 0 0,.slice none 0 0,.slice none 0 0] from ES.sub (t1m w5 (by omega)) ⟨pa,ca,_,rfl,hrw,(t4c _).up (Nat.le_max_right _ _)⟩)
            have HoneE:=zH (show ∀ u ∈ [Value.slice pa A.length ca,.bool true,.int .i64 0,.int .i64 0,.string ⟨#[]⟩,.slice none 0 0,.slice none 0 0,.slice none 0 0,.slice none 0 0],u.oneCell' = true by intro u hu;simp only [List.mem_cons,List.not_mem_nil,or_false] at hu;rcases hu with rfl | rfl | rfl | rfl | rfl | rfl | rfl | rfl | rfl <;> rfl)
            have HnE:=zH (tcg HN.out hA2 (show zeroV.nodes ≤ N from Nat.le_trans (t4y (n:=0)) (by omega)) true)
            clear hrw hB5
            generalize hdE : max dA 1 = dE at *
            clear hdE
            go_wp2_with (at_builtin;go_loud (refine t0n rfl (.tmp 61) (.tmp 63) 25 rfl 55 (by kernel_rfl) t3n rfl (by decide) (by decide) (w.heap.size + 3) _ w5.heap.size [.slice pa A.length ca,.bool true,.int .i64 0,.int .i64 0,.string ⟨#[]⟩,.slice none 0 0,.slice none 0 0,.slice none 0 0,.slice none 0 0] (heap_alloc_new w5 _) (Nat.le_trans hwa5 (by simp)) rfl HoneE.out (.slice pl L.length cl) L.length xs rfl (t0d HoL5.out ((Below.refl _ _).alloc (Nat.le_refl _) _) (Nat.le_refl _)) (by omega) rfl ?_);intro v9 w9 ho9 hf9;have Hf9:=zH hf9;have hb9:=(hf9.below (Nat.le_trans hwa5 (by simp)) (by simp) fun g hg=>(HoL5.out.lt g hg).1);have Hb9:=zH (((Below.refl w5.heap.size w5).alloc (Nat.le_refl _) (.cells #[.slice pa A.length ca,.bool true,.int .i64 0,.int .i64 0,.string ⟨#[]⟩,.slice none 0 0,.slice none 0 0,.slice none 0 0,.slice none 0 0] 55)).mono hwa5 |>.trans hb9);have Ho9:=zH ho9;clear ho9 hf9 hb9)
            have hcB:=tbt HcL.out H5.out (by omega) HXE.out (t3g HoL.out (World.ownsRow_nil wa 0 0 0) hsza) Hf9.out rfl
            refine ⟨⟨m - 1,L ++ [.mk A true zeroV],xs ++ [.slice pa A.length ca,.bool true,.int .i64 0,.int .i64 0,.string ⟨#[]⟩,.slice none 0 0,.slice none 0 0,.slice none 0 0,.slice none 0 0],max dL dE,by first | rfl | (congr 1;omega) | (congr 1),by simp;omega,by rw [List.length_append];exact Ho9.out,hcB,fun x hx=>?_,(HsA.out.trans H5.out).app (Hb9.out.mono (by omega))⟩,by simp [intOf];omega⟩
            rcases List.mem_append.1 hx with hx | hx
            · exact HNL.out x hx
            · rw [List.mem_singleton.1 hx];exact HnE.out
          · have dy : (y == 1) = false:=by simp [hy]
            have hw4 : be + 1 ≤ w4.heap.size:=Nat.le_trans hsz3 Hs4.out.size
            have HB4:=zH ((Hs4.out.block hlBr HbeS.out).trans HBr.out)
            clear f0 f1 f2 f3 f4 f5 f6 f7 f8 gn t0 t1
            go_upto_region 13 with fail
            have HsW4:=zH (HsW.out.trans Hs4.out)
            have gn : w4.cell? ⟨w.heap.size + 1,4,none⟩ = _:=t1p HsW4.out HGn.out (by omega) (by omega)
            have t0 : w4.cell? ⟨w.heap.size,0,none⟩ = _:=t1p HsW4.out HGt0.out (by omega) (by omega)
            have t1 : w4.cell? ⟨w.heap.size,1,none⟩ = _:=t1p HsW4.out HGt1.out (by omega) (by omega)
            have Yn:=zH (show w4.drew.cell? ⟨w.heap.size + 1,4,none⟩ = _ from gn)
            have Yt:=zH (show w4.drew.cell? ⟨w.heap.size,0,none⟩ = _ from t0)
            obtain ⟨a,o,rfl,hab,hal,hcell⟩:=t4k HK0.out (show j < n.kids.length by have:=Hkl.out;omega)
            have Hab:=zH hab
            have hjk : j < n.kids.length:=by have:=Hkl.out;omega
            have djk : decide (j < n.kids.length) = true:=by simp [hjk]
            generalize n.kids[j] = kj at *
            have q0:=hcell _ HsW4.out
            have Yk:=zH (show w4.drew.cell? ⟨a,o + j,none⟩ = _ from q0)
            clear hcell hab
            go_upto_region 14 with (first
              | ((with_reducible refine Lex.t0w ?_);refine fE (by repeat first | exact LexK.t0t | refine LexK.t0o rfl ?_ | refine LexK.t0p (by decide +kernel) ?_ | refine LexK.t0c rfl ⟨by omega,by omega⟩ Yt.out ?_ | refine LexK.t0c rfl ⟨by omega,by omega⟩ Yn.out ?_ | refine LexK.t0c rfl ⟨by omega,Hab.out⟩ Yk.out ?_) ?_)
              | ((with_reducible refine Lex.t0q ?_);refine LexK.t0h (fun x=>x < be + 1 ∧ x ≠ S.b) (by kernel_rfl) (by decide +kernel) ?_)
              | (with_reducible first | refine qH ?_ | refine LexK.t0s ?_ | refine LexK.t0v ?_)
              | ((with_reducible refine Lex.t1b ?_);first | (refine LexK.t0e hex7.out ?_) | (refine LexK.t0e (LexK.Ext.alloc _ _) ?_) | (refine LexK.t0e (LexK.Ext.refl _) ?_))
              | (go_at_call 25;refine (HV.out _ w4.drew HsW4.out.drew.src (HT.out.sr HsW4.out.drew)).mono ?_;rintro e w7 ⟨v7,X,rfl,hx,hq,hs⟩;obtain ⟨dv,cs,rfl,hx⟩:=hx;obtain ⟨x1,x2,x3,x4,x5,x6,x7,x8,rfl⟩:=hx.seven;have HX:=zH hx;have Hq:=zH hq.2;have hex7:=zH (t2v hs (by exact hw4));have Hs7:=zH ((SR.refl Hs4.out.src).drew.trans hs);have hB7:=(Hs7.out.block (t0a HB4.out) HbeS.out).trans HB4.out;have HB7:=zH hB7;have hz1 : ∀ i,w7.frozen? ⟨be,i,none⟩ = false:=(fun i=>by simp [World.frozen?,hB7]);obtain ⟨⟨f0,f1,f2,f3⟩,⟨f4,f5,f6,f7⟩,f8⟩:=t1k hB7;clear hx hq hs hB7))
            have HU:=zH ((Upd.set (i:=8) (v:=(.slice x7 X.labels.length x8)) (Upd.set (i:=7) (v:=(.slice x5 X.ents.length x6)) (Upd.set (i:=6) (v:=(.slice x3 X.keys.length x4)) (Upd.set (i:=5) (v:=(.slice x1 X.kids.length x2)) (Upd.set (i:=4) (v:=(.string X.text)) (Upd.set (i:=3) (v:=(.int .i64 X.num)) (Upd.set (i:=2) (v:=(.int .i64 X.kind)) (Upd.refl HB7.out)))))))))
            have hB5:=HU.out.blk
            have Ho5:=zH (t1r ((Hs4.out.trans Hs7.out).owns Ho.out (by omega)) HU.out (by omega))
            have HcE:=zH (show Ch 7 (VS (we (lo (be + 1)) (((((((w7.setCell ⟨be,2,none⟩ (.int .i64 X.kind)).setCell ⟨be,3,none⟩ (.int .i64 X.num)).setCell ⟨be,4,none⟩ (.string X.text)).setCell ⟨be,5,none⟩ (.slice x1 X.kids.length x2)).setCell ⟨be,6,none⟩ (.slice x3 X.keys.length x4)).setCell ⟨be,7,none⟩ (.slice x5 X.ents.length x6)).setCell ⟨be,8,none⟩ (.slice x7 X.labels.length x8))) (max dA dv)) A ys from Hc.out.mono fun x cs _ h=>((((h.below (by rw [t0j];exact (Hs4.out.trans Hs7.out).we (aE_b (by omega)))).below (by rw [t0j];exact t1n HU.out (aE_b (by omega)))).sub (aE_lo _ _ _ _)).up (Nat.le_max_left _ _)))
            have HRE:=zH (show VS (we (lo (be + 1)) (((((((w7.setCell ⟨be,2,none⟩ (.int .i64 X.kind)).setCell ⟨be,3,none⟩ (.int .i64 X.num)).setCell ⟨be,4,none⟩ (.string X.text)).setCell ⟨be,5,none⟩ (.slice x1 X.kids.length x2)).setCell ⟨be,6,none⟩ (.slice x3 X.keys.length x4)).setCell ⟨be,7,none⟩ (.slice x5 X.ents.length x6)).setCell ⟨be,8,none⟩ (.slice x7 X.labels.length x8))) (max dA dv) X [.int .i64 X.kind,.int .i64 X.num,.string X.text,.slice x1 X.kids.length x2,.slice x3 X.keys.length x4,.slice x5 X.ents.length x6,.slice x7 X.labels.length x8] from ((HX.out.sub (t1m w7 (by exact hw4))).below (by rw [t0j];exact t1n HU.out (by simp [lo]))).up (Nat.le_max_right _ _))
            have H5:=zH ((Hsr.out.trans (Hs4.out.trans Hs7.out)).app (HU.out.below (B:=wa.heap.size) (by omega)))
            have HoL5:=zH (H5.out.owns HoL.out (by omega))
            clear hz1 f0 f1 f2 f3 f4 f5 f6 f7 f8 gn t0 t1 q0
            generalize (((((((w7.setCell ⟨be,2,none⟩ (.int .i64 X.kind)).setCell ⟨be,3,none⟩ (.int .i64 X.num)).setCell ⟨be,4,none⟩ (.string X.text)).setCell ⟨be,5,none⟩ (.slice x1 X.kids.length x2)).setCell ⟨be,6,none⟩ (.slice x3 X.keys.length x4)).setCell ⟨be,7,none⟩ (.slice x5 X.ents.length x6)).setCell ⟨be,8,none⟩ (.slice x7 X.labels.length x8)) = w5 at *
            simp at hB5
            obtain ⟨⟨f0,f1,f2,f3⟩,⟨f4,f5,f6,f7⟩,f8⟩:=t1k hB5
            have hwa5 : (w.heap.size + 3) ≤ w5.heap.size:=Nat.le_trans hsza H5.out.size
            obtain ⟨pz,cz,ez,hrw⟩:=t1o (t1q Ho5.out (t1g _)) HcE.out (by omega)
            injection ez with ez1 _ ez3
            subst ez1 ez3
            have HXE:=zH (show ES (we (lo wa.heap.size) w5) (max dA dv) (.mk A false X) [.slice pa A.length ca,.bool false,.int .i64 X.kind,.int .i64 X.num,.string X.text,.slice x1 X.kids.length x2,.slice x3 X.keys.length x4,.slice x5 X.ents.length x6,.slice x7 X.labels.length x8] from ES.sub (t1m w5 (by omega)) ⟨pa,ca,_,rfl,hrw,HRE.out⟩)
            have HoneE:=zH (show ∀ u ∈ [Value.slice pa A.length ca,.bool false,.int .i64 X.kind,.int .i64 X.num,.string X.text,.slice x1 X.kids.length x2,.slice x3 X.keys.length x4,.slice x5 X.ents.length x6,.slice x7 X.labels.length x8],u.oneCell' = true by intro u hu;simp only [List.mem_cons,List.not_mem_nil,or_false] at hu;rcases hu with rfl | rfl | rfl | rfl | rfl | rfl | rfl | rfl | rfl <;> rfl)
            have HnE:=zH (tcg HN.out hA2 Hq.out false)
            clear hrw hB5
            generalize hdE : max dA dv = dE at *
            clear hdE
            go_wp2_with (at_builtin;go_loud (refine t0n rfl (.tmp 61) (.tmp 63) 25 rfl 55 (by kernel_rfl) t3n rfl (by decide) (by decide) (w.heap.size + 3) _ w5.heap.size [.slice pa A.length ca,.bool false,.int .i64 X.kind,.int .i64 X.num,.string X.text,.slice x1 X.kids.length x2,.slice x3 X.keys.length x4,.slice x5 X.ents.length x6,.slice x7 X.labels.length x8] (heap_alloc_new w5 _) (Nat.le_trans hwa5 (by simp)) rfl HoneE.out (.slice pl L.length cl) L.length xs rfl (t0d HoL5.out ((Below.refl _ _).alloc (Nat.le_refl _) _) (Nat.le_refl _)) (by omega) rfl ?_);intro v9 w9 ho9 hf9;have Hf9:=zH hf9;have hb9:=(hf9.below (Nat.le_trans hwa5 (by simp)) (by simp) fun g hg=>(HoL5.out.lt g hg).1);have Hb9:=zH (((Below.refl w5.heap.size w5).alloc (Nat.le_refl _) (.cells #[.slice pa A.length ca,.bool false,.int .i64 X.kind,.int .i64 X.num,.string X.text,.slice x1 X.kids.length x2,.slice x3 X.keys.length x4,.slice x5 X.ents.length x6,.slice x7 X.labels.length x8] 55)).mono hwa5 |>.trans hb9);have Ho9:=zH ho9;clear ho9 hf9 hb9)
            have hcB:=tbt HcL.out H5.out (by omega) HXE.out (t3g HoL.out (World.ownsRow_nil wa 0 0 0) hsza) Hf9.out rfl
            refine ⟨⟨m - 1,L ++ [.mk A false X],xs ++ [.slice pa A.length ca,.bool false,.int .i64 X.kind,.int .i64 X.num,.string X.text,.slice x1 X.kids.length x2,.slice x3 X.keys.length x4,.slice x5 X.ents.length x6,.slice x7 X.labels.length x8],max dL dE,by first | rfl | (congr 1;omega) | (congr 1),by simp;omega,by rw [List.length_append];exact Ho9.out,hcB,fun x hx=>?_,(HsA.out.trans H5.out).app (Hb9.out.mono (by omega))⟩,by simp [intOf];omega⟩
            rcases List.mem_append.1 hx with hx | hx
            · exact HNL.out x hx
            · rw [List.mem_singleton.1 hx];exact HnE.out
    · have d9 : decide (0 < m) = false:=by simp;omega
      have HcE:=HcL.out.mono fun x cs _ h=>h.sub (aE_lo _ _ _ _)
      obtain ⟨pz,cz,ez,hrw⟩:=t1o (t1q HoL.out (t1g _)) HcE (by omega)
      have Hk:=zH (t9i (lo (w.heap.size + 3)) (q : Int) L wa (.slice pl L.length cl) ((t1g _).mono hsza) ⟨dL,pz,cz,ez,hrw⟩ (by omega))
      have HnF:=zH (show (mkF (q : Int) L).1.nodes ≤ 1 + 2 * (3 * N) from tca HNL.out (by omega))
      have HlF:=zH (tfx (q : Int) L)
      clear ez hrw HcE
      generalize mkF (q : Int) L = F at *
      obtain ⟨V,code⟩:=F
      go_upto_region 16 with (go_at_call 20;refine Hk.out.mono ?_;rintro e wT ⟨vT,rfl,hx,-,hb⟩;obtain ⟨dv,cs,rfl,hx⟩:=hx;obtain ⟨t1,t2,t3,t4,t5,t6,t7,t8,rfl⟩:=hx.seven;have HXT:=zH hx;have HTT:=zH (HsA.out.step hb);have hwT : (w.heap.size + 3) ≤ wT.heap.size:=Nat.le_trans hsza hb.size;clear hx hb)
      have hBt:=heap_alloc_new wT (.cells #[.int .i64 V.kind,.int .i64 V.num,.string V.text,.slice t1 V.kids.length t2,.slice t3 V.keys.length t4,.slice t5 V.ents.length t6,.slice t7 V.labels.length t8] 28)
      have hbt : Below wT.heap.size wT (wT.alloc (.cells #[.int .i64 V.kind,.int .i64 V.num,.string V.text,.slice t1 V.kids.length t2,.slice t3 V.keys.length t4,.slice t5 V.ents.length t6,.slice t7 V.labels.length t8] 28)):=(Below.refl _ _).alloc (Nat.le_refl _) _
      generalize wT.alloc (.cells #[.int .i64 V.kind,.int .i64 V.num,.string V.text,.slice t1 V.kids.length t2,.slice t3 V.keys.length t4,.slice t5 V.ents.length t6,.slice t7 V.labels.length t8] 28) = wU at *
      obtain ⟨⟨f0,f1,f2,f3⟩,f4,f5,f6⟩:=t0f hBt
      have HU:=zH (HTT.out.step hbt);have HXU:=zH (t5u hbt HXT.out)
      have hsU : (w.heap.size + 3) ≤ wU.heap.size:=Nat.le_trans hwT hbt.size
      have HZU:=zH (HU.out.block (k:=w.heap.size + 2) (by omega) (by omega))
      have ZU:=zH (HZU.out.trans HO.out)
      clear hBt hbt
      by_cases hcode : code = 0
      · have d7 : (code == 0) = true:=by simp [hcode]
        clear hcode
        go_wp2_with (with_reducible refine wpList_store_row rfl 28 (.tmp 8) (.tmp 74) rfl _ _ rfl rfl _ _ ZU.out (by kernel_rfl) (by kernel_rfl) (by kernel_rfl) ?_)
        refine bodyPost_ret (results_cell_row rfl _ _ (w.heap.size + 2) 28 _ (0,0) _ rfl (setRow_heap _ _ _ _ _ _ ZU.out) rfl rfl (by kernel_rfl)) rfl ?_
        exact ⟨_,V,rfl,t1v ⟨dv,_,rfl,HXU.out⟩ HEx.out HEl.out _,⟨(by have h2 : V.nodes ≤ 1 + 2 * (3 * N):=HnF.out;omega),HlF.out⟩,(H2.out.trans HU.out).row (by omega) Hb.out _⟩
      · have d7 : (code == 0) = false:=by simp [hcode]
        clear hcode f0 f1 f2 f3 f4 f5 f6
        go_wp2_with (first
          | (go_at_call 43;refine (t3f wU).mono ?_;rintro e wL ⟨rfl,hb⟩;have HL:=zH (HU.out.step hb);have ZL:=zH ((hb.block _ (t0a ZU.out)).trans ZU.out);clear hb)
          | (with_reducible refine wpList_store_row rfl 28 (.tmp 8) (.tmp 73) rfl _ _ rfl rfl _ _ ZL.out (by kernel_rfl) (by kernel_rfl) (by kernel_rfl) ?_))
        refine bodyPost_ret (results_cell_row rfl _ _ (w.heap.size + 2) 28 _ (0,0) _ rfl (setRow_heap _ _ _ _ _ _ ZL.out) rfl rfl (by kernel_rfl)) rfl ?_
        exact ⟨_,_,rfl,vw0 _ _ _ _,⟨(by show VV.nodes _ ≤ _;simp [VV.nodes,nodesVs,nodesEs]),rfl⟩,(H2.out.trans HL.out).row (by omega) Hb.out _⟩
end Go.Proofs.YtjgldaaofdpcgaaGreat
