/- Walks and plain facts for the laws of membership, for all values and types that the heap holds (texts C1). -/
import Derived.Test.YtjgldaaofdpcgaaGreatW03
import Derived.Test.YtjgldaaofdpcgaaGreatW39
set_option linter.unusedVariables false
set_option linter.unusedSimpArgs false
namespace Go.Proofs.YtjgldaaofdpcgaaGreat
open Go.RowKit Go.Ident
set_option maxRecDepth 100000
theorem tam {w : World} {p : Option Addr} {c d : Nat} {l : List VV} (h : Rw w p c 7 l (VS w d)) (k : Int) : VW w (.agg #[.int .i64 k,.int .i64 0,.string ⟨#[]⟩,.slice p l.length c,.slice none 0 0,.slice none 0 0,.slice none 0 0]) (.mk k 0 t0u l [] [] []) :=
  ⟨d + 1,_,rfl,p,c,none,0,none,0,none,0,rfl,h,Rw.nil _ _ _ _ _,Rw.nil _ _ _ _ _,Rw.nil _ _ _ _ _⟩
theorem t8p {l : List VV} {N : Nat} {k : Int} (h : ∀ x ∈ l,x.nodes ≤ N) (hl : l.length ≤ 3) : (VV.mk k 0 t0u l [] [] []).nodes ≤ 1 + 3 * N:=by
  rw [VV.nodes,t2b]
  have h1:=t2l h
  have h2:=Nat.mul_le_mul_right N hl
  simp only [nodesEs]
  omega
theorem tjz {l : List VV} (h : l.length = 2) : ∃ x y,l = [x,y]:=by
  match l,h with
  | [x,y],_=>exact ⟨x,y,rfl⟩
set_option maxHeartbeats 64000000 in
theorem tic (T : Ty) (tv : Value) (S : SD) (kn : Nat) (h : Int) (n : TN) (h1 : 1 ≤ h) (hh : h ≤ 1000) (hkn : kn < T.nodes.length) (hnode : T.nodes[kn] = n) (hkd : n.kind = 10) (N : Nat) (hN : 1 ≤ N) (hkl : n.kids.length ≤ 3) (hv : ∀ k,NV T tv N S k (h - 1)) (w : World) (hS : SRC S w) (hT : TB S T tv w) : Calls Tryz.prog 40 #[.pointer (some ⟨S.b,0,none⟩),tv,.int .i64 (kn : Int),.int .i64 h] w (GV (fun V=>V.nodes ≤ 1 + 3 * N ∧ V.labels = []) S w):=by
  have hltS:=hS.lt
  obtain ⟨pT,cT,rfl,hR,-⟩:=id hT
  obtain ⟨a,o,cs,rfl,hal,-,hrange,hNC⟩:=hR.all hkn
  rw [hnode] at hNC
  obtain ⟨kd,lo_,hi_,tx,ks,fs,r0,r1⟩:=n
  obtain ⟨p1,c1,p2,c2,rfl,hI,hF⟩:=hNC
  simp only at hI hF hrange
  obtain rfl : kd = 10:=hkd
  simp only at hkl
  obtain ⟨w2,e9,hA,hC,hb⟩:=t1f w (.cells #[.slice (some ⟨a,o,none⟩) T.nodes.length cT,.int .i64 T.root] 31) (.cells #[.int .i64 0,.int .i64 0,.string ⟨#[]⟩,.slice none 0 0,.slice none 0 0,.slice none 0 0,.slice none 0 0] 28)
  have hs2 : w2.heap.size = w.heap.size + 2:=by rw [← e9];simp
  obtain ⟨w4,e8,hB4,hV4,hb4⟩:=t1f w2 (.cells #[.int .i64 10,.int .i64 lo_,.int .i64 hi_,.string tx,.slice p1 ks.length c1,.slice p2 fs.length c2,.int .i64 r0,.int .i64 r1] 48) (.cells #[.int .i64 0,.int .i64 0,.string ⟨#[]⟩,.slice none 0 0,.slice none 0 0,.slice none 0 0,.slice none 0 0] 28)
  have hs4 : w4.heap.size = w2.heap.size + 2:=by rw [← e8];simp
  have E8:=zH e8;clear e8
  have H2:=zH ((SR.refl hS).app hb)
  have H4:=zH (H2.out.step hb4)
  have hrg:=hrange _ H2.out.bel
  have a0:=t0l (hrg 0 _ rfl);have a1:=t0l (hrg 1 _ rfl);have a2:=t0l (hrg 2 _ rfl);have a3:=t0l (hrg 3 _ rfl)
  have a4:=t0l (hrg 4 _ rfl);have a5:=t0l (hrg 5 _ rfl);have a6:=t0l (hrg 6 _ rfl);have a7:=t0l (hrg 7 _ rfl)
  simp only [Nat.add_zero] at a0
  have HT:=zH (hT.sr H4.out);have HT0:=zH hT;have HI0:=zH hI
  have HI:=zH (show IS (wo S.b w4) (.slice p1 ks.length c1) ks from hI.below H4.out.bel)
  have HF:=zH (show Rw (wo S.b w4) p2 c2 4 fs FC from hF.below H4.out.bel fun _ _ _ h=>h)
  have hNC : NC (wo S.b w4) ⟨10,lo_,hi_,tx,ks,fs,r0,r1⟩ [.int .i64 10,.int .i64 lo_,.int .i64 hi_,.string tx,.slice p1 ks.length c1,.slice p2 fs.length c2,.int .i64 r0,.int .i64 r1]:=⟨p1,c1,p2,c2,rfl,HI.out,HF.out⟩
  have HNC:=zH hNC
  rw [hs2] at hB4 hV4
  have HB4:=zH hB4;have HV4:=zH hV4
  have HA4:=zH ((hb4.block w.heap.size (by omega)).trans hA)
  have HO4:=zH ((hb4.block (w.heap.size + 1) (by omega)).trans hC)
  obtain ⟨g0,g1⟩:=t0k hA
  have Hs4:=zH (show w4.heap.size = (w.heap.size + 4) by omega)
  have Hb:=zH (show (w.heap.size + 1) ≠ S.b by omega)
  have HEx:=zH (show lo (w.heap.size + 4) (w.heap.size + 1) = true by simp [lo])
  have HEl:=zH (show ∀ k,k < w.heap.size → lo (w.heap.size + 4) k = true from fun k hk=>by simp [lo];omega)
  have dk : decide (T.nodes.length ≤ kn) = false:=by simp;omega
  have dk2 : decide (kn < T.nodes.length) = true:=by simp [hkn]
  have dk3 : decide ((kn : Int) < 0) = false:=by simp
  have dh : decide (h ≤ 0) = false:=by simp;omega
  clear hB4 hV4 hA hC hb hb4 hR hrange hrg hI hF hNC hS hT hnode
  go_enter Tryz.func40,Tryz.ntmps40
  go_upto_region 1 with fail
  try rw [e9]
  go_upto_region 5 with fail
  (try have e8:=E8.out)
  try rw [hs2]
  try rw [e8]
  try rw [hs2]
  clear e9 e8 E8 g0 g1 a0 a1 a2 a3 a4 a5 a6 a7 dk dk3 dh hs2 hs4
  obtain ⟨⟨n0,n1,n2,n3⟩,n4,n5,n6,n7⟩:=t0y HB4.out
  have Hv:=zH hv
  clear hv
  have Hn2:=zH (show w.heap.size + 2 ≠ S.b by omega)
  have Hn3:=zH (show w.heap.size + 3 ≠ S.b by omega)
  have hw4 : (w.heap.size + 4) ≤ w4.heap.size:=by have:=Hs4.out;omega
  clear n0 n1 n2 n3 n4 n5 n6 n7
  have hnk:=(t0y HB4.out).1.1
  go_upto_region 23 with fail
  clear hnk
  go_loopw [11] (fun iv wr=>∃ (i : Nat) (l : List VV) (xs : List Value) (d : Nat) (lv : Value),iv = .int .i64 (i : Int) ∧ i ≤ ks.length ∧ l.length = i ∧ wr.heap[(w.heap.size + 3)]? = some (.cells #[.int .i64 0,.int .i64 0,.string ⟨#[]⟩,lv,.slice none 0 0,.slice none 0 0,.slice none 0 0] 28) ∧ wr.ownsRow (w.heap.size + 4) 28 7 lv l.length xs ∧ Ch 7 (VS (we (aE (w.heap.size + 4) lv (.slice none 0 0)) wr) d) l xs ∧ (∀ x ∈ l,x.nodes ≤ N) ∧ wr.heap[w.heap.size]? = some (.cells #[.slice (some ⟨a,o,none⟩) T.nodes.length cT,.int .i64 T.root] 31) ∧ wr.heap[(w.heap.size + 2)]? = some (.cells #[.int .i64 10,.int .i64 lo_,.int .i64 hi_,.string tx,.slice p1 ks.length c1,.slice p2 fs.length c2,.int .i64 r0,.int .i64 r1] 48) ∧ wr.heap[(w.heap.size + 1)]? = some (.cells #[.int .i64 0,.int .i64 0,.string ⟨#[]⟩,.slice none 0 0,.slice none 0 0,.slice none 0 0,.slice none 0 0] 28) ∧ SR S w wr) (fun iv _=>((ks.length : Int) - intOf iv).toNat)
  case atStart=>exact ⟨0,[],[],0,.slice none 0 0,rfl,by omega,rfl,HV4.out,World.ownsRow_nil _ _ _ _,Ch.nil,fun x hx=>by simp at hx,HA4.out,HB4.out,HO4.out,H4.out⟩
  case round =>
    obtain ⟨i,l,xs,d,lv,rfl,hi,hll,hVr,ho,hc,hN2,hAr,hBr,hOr,hsr⟩:=hrel
    obtain ⟨pa,ca,rfl⟩:=t0r ho
    have Ho:=zH ho;have Hc:=zH hc;have HN:=zH hN2;have Hsr:=zH hsr;have HVr:=zH hVr;have HAr:=zH hAr;have HBr:=zH hBr;have HOr:=zH hOr;have Hll:=zH hll
    have hsz2 : (w.heap.size + 4) ≤ wr.heap.size:=t0a hVr
    obtain ⟨⟨f0,f1,f2,f3⟩,f4,f5,f6⟩:=t0f hVr
    obtain ⟨⟨n0,n1,n2,n3⟩,n4,n5,n6,n7⟩:=t0y hBr
    obtain ⟨t0,t1⟩:=t0k hAr
    clear ho hc hN2 hsr hVr hAr hBr hOr hll
    obtain ⟨wq,hwq⟩ : ∃ wq : World,wq = wr:=⟨_,rfl⟩
    subst hwq
    by_cases hlt : i < ks.length
    · have d9 : decide (i < ks.length) = true:=by simp [hlt]
      obtain ⟨ak,ok,rfl,hab,hal2,hcell⟩:=t4k HI0.out hlt
      have Hab:=zH hab
      have hak : ak < (w.heap.size + 4):=by omega
      generalize ks[i] = kj at *
      have q0:=hcell _ Hsr.out
      have Yk:=zH (show wq.drew.cell? ⟨ak,ok + i,none⟩ = _ from q0)
      have Yt:=zH (show wq.drew.cell? ⟨w.heap.size,0,none⟩ = _ from t0)
      have Yn:=zH (show wq.drew.cell? ⟨w.heap.size + 2,4,none⟩ = _ from n4)
      have Yv:=zH (show wq.drew.cell? ⟨w.heap.size + 3,3,none⟩ = _ from f3)
      clear hcell hab
      go_wp2_with (first
        | ((with_reducible refine Lex.t0w ?_);refine fE (by repeat first | exact LexK.t0t | refine LexK.t0o rfl ?_ | refine LexK.t0p (by decide +kernel) ?_ | refine LexK.t0c rfl ⟨by omega,Hn3.out⟩ Yv.out ?_ | refine LexK.t0c rfl ⟨by omega,by omega⟩ Yt.out ?_ | refine LexK.t0c rfl ⟨by omega,Hn2.out⟩ Yn.out ?_ | refine LexK.t0c rfl ⟨by omega,Hab.out⟩ Yk.out ?_) ?_)
        | ((with_reducible refine Lex.t0q ?_);refine LexK.t0h (fun x=>x < (w.heap.size + 4) ∧ x ≠ S.b) (by kernel_rfl) (by decide +kernel) ?_)
        | (with_reducible first | refine qH ?_ | refine LexK.t0s ?_ | refine LexK.t0v ?_)
        | ((with_reducible refine Lex.t1b ?_);first | (refine LexK.t0e hex7.out ?_) | (refine LexK.t0e hex8.out ?_) | (refine LexK.t0e (LexK.Ext.alloc _ _) ?_) | (refine LexK.t0e (LexK.Ext.refl _) ?_))
        | (go_at_call 25;refine (Hv.out _ wq.drew Hsr.out.drew.src (HT0.out.sr Hsr.out.drew)).mono ?_;rintro e w7 ⟨v7,X,rfl,hx,hq,hs⟩;obtain ⟨dv,cs,rfl,hx⟩:=hx;obtain ⟨x1,x2,x3,x4,x5,x6,x7,x8,rfl⟩:=hx.seven;have HX:=zH hx;have Hq:=zH hq.2;have hex7:=zH (t2v hs (by exact hsz2));have Hs7:=zH ((SR.refl Hsr.out.src).drew.trans hs);have HoK7:=zH (hs.owns (t1s Ho.out) (by omega));have Hone:=zH hx.one;have hw7 : (w.heap.size + 4) ≤ w7.heap.size:=(Nat.le_trans hsz2 hs.size);clear hx hq hs)
        | (at_builtin;(refine t0n rfl (.tmp 97) (.tmp 108) 23 rfl 28 (by kernel_rfl) t1w rfl (by decide) (by decide) (w.heap.size + 4) _ w7.heap.size [.int .i64 X.kind,.int .i64 X.num,.string X.text,.slice x1 X.kids.length x2,.slice x3 X.keys.length x4,.slice x5 X.ents.length x6,.slice x7 X.labels.length x8] (heap_alloc_new w7 _) (Nat.le_trans hw7 (by simp)) rfl Hone.out (.slice pa l.length ca) l.length xs rfl (t0d HoK7.out ((Below.refl _ _).alloc (Nat.le_refl _) _) (Nat.le_refl _)) (by have:=Hll.out;omega) rfl ?_);intro v8 w8 ho8 hf8;have hb8:=(hf8.below (Nat.le_trans hw7 (by simp)) (by simp) fun g hg=>(HoK7.out.lt g hg).1);have hex8:=zH (show LexK.Ext (fun x=>x < (w.heap.size + 4) ∧ x ≠ S.b) (w7.alloc (.cells #[.int .i64 X.kind,.int .i64 X.num,.string X.text,.slice x1 X.kids.length x2,.slice x3 X.keys.length x4,.slice x5 X.ents.length x6,.slice x7 X.labels.length x8] 28)) w8 from t4r hb8);have Hb8:=zH (((Below.refl w7.heap.size w7).alloc (Nat.le_refl _) (.cells #[.int .i64 X.kind,.int .i64 X.num,.string X.text,.slice x1 X.kids.length x2,.slice x3 X.keys.length x4,.slice x5 X.ents.length x6,.slice x7 X.labels.length x8] 28)).mono hw7 |>.trans hb8);obtain ⟨p8,c8,rfl⟩:=t0r ho8;have Ho8:=zH ho8;have hV8:=(Hb8.out.block (w.heap.size + 3) (by omega)).trans ((Hs7.out.block (by omega) Hn3.out).trans HVr.out);have HU:=zH (Upd.set (i:=3) (v:=.slice p8 (l.length + 1) c8) (Upd.refl hV8));have hz0 : w8.cell? ⟨w.heap.size + 3,3,none⟩ = some (.slice pa l.length ca):=(by simp [World.cell?,hV8]);have hz1 : w8.frozen? ⟨w.heap.size + 3,3,none⟩ = false:=(by simp [World.frozen?,hV8]);have Hf8:=zH hf8;clear ho8 hf8 hb8 hV8))
      have hV9:=HU.out.blk
      have hcA:=t4z Hc.out Hs7.out (by omega) HX.out (t3g Ho.out (World.ownsRow_nil wq 0 0 0) hsz2) Hf8.out
      have hkp : ∀ k,k < (w.heap.size + 4) → k ≠ S.b → k ≠ (w.heap.size + 3) → (w8.setCell ⟨w.heap.size + 3,3,none⟩ (.slice p8 (l.length + 1) c8)).heap[k]? = wq.heap[k]?:=fun k h1 h2 h3=>(HU.out.other k h3).trans ((Hb8.out.block k h1).trans (Hs7.out.block (by omega) h2))
      refine ⟨⟨i + 1,l ++ [X],xs ++ [.int .i64 X.kind,.int .i64 X.num,.string X.text,.slice x1 X.kids.length x2,.slice x3 X.keys.length x4,.slice x5 X.ents.length x6,.slice x7 X.labels.length x8],max d dv,.slice p8 (l.length + 1) c8,by first | rfl | (congr 1),by omega,by rw [List.length_append,Hll.out];rfl,by simpa using hV9,by rw [List.length_append];exact t1r Ho8.out HU.out (by omega),?_,fun x hx=>?_,?_,?_,?_,((Hsr.out.trans Hs7.out).app (Hb8.out.mono (by omega))).app (HU.out.below (by omega))⟩,by simp [intOf];omega⟩
      · exact hcA.mono fun x cs _ h=>h.below (by rw [t0j];exact t1n HU.out (aE_b (by omega)))
      · rcases List.mem_append.1 hx with hx | hx
        · exact HN.out x hx
        · rw [List.mem_singleton.1 hx];exact Hq.out
      · exact (hkp _ (by omega) (by omega) (by omega)).trans HAr.out
      · exact (hkp _ (by omega) (by omega) (by omega)).trans HBr.out
      · exact (hkp _ (by omega) (by omega) (by omega)).trans HOr.out
    · have d9 : decide (i < ks.length) = false:=by simp;omega
      obtain rfl : i = ks.length:=by omega
      go_upto_region 26 with fail
      clear f0 f1 f2 f3 f4 f5 f6 n1 n2 n3 n4 n5 n6 n7 t0 t1
      have hz0 : wq.cell? ⟨w.heap.size + 3,0,none⟩ = some (.int .i64 0):=by simp [World.cell?,HVr.out]
      have hz1 : wq.frozen? ⟨w.heap.size + 3,0,none⟩ = false:=by simp [World.frozen?,HVr.out]
      have HU6:=zH (Upd.set (i:=0) (v:=.int .i64 6) (Upd.refl HVr.out))
      go_upto_region 27 with fail
      have hV5:=HU6.out.blk
      have Ho5:=zH (t1r Ho.out HU6.out (by omega))
      have HcE:=zH (Hc.out.mono fun x cs _ h=>(h.below (by rw [t0j];exact t1n HU6.out (aE_b (by omega)))).sub (aE_lo _ _ _ _))
      have H5:=zH (Hsr.out.app (HU6.out.below (B:=w.heap.size) (by omega)))
      have Z5:=zH ((HU6.out.other (w.heap.size + 1) (by omega)).trans HOr.out)
      have HB5:=zH ((HU6.out.other (w.heap.size + 2) (by omega)).trans HBr.out)
      clear hz0 hz1 n0
      generalize wq.setCell ⟨w.heap.size + 3,0,none⟩ (.int .i64 6) = w5 at *
      simp at hV5
      have HV5:=zH hV5
      have n0:=(t0y HB5.out).1.1
      obtain ⟨⟨f0,f1,f2,f3⟩,f4,f5,f6⟩:=t0f hV5
      clear hV5
      obtain ⟨pz,cz,ez,hrw⟩:=t1o (t1q Ho5.out (t1g _)) HcE.out (by have:=Hll.out;omega)
      injection ez with ez1 _ ez3
      subst ez1 ez3
      go_wp2_with (first
        | (with_reducible refine wpList_store_row rfl 28 (.tmp 8) (.tmp 126) rfl _ _ rfl rfl _ _ Z5.out (by kernel_rfl) (by kernel_rfl) (by kernel_rfl) ?_))
      refine bodyPost_ret (results_cell_row rfl _ _ (w.heap.size + 1) 28 _ (0,0) _ rfl (setRow_heap _ _ _ _ _ _ Z5.out) rfl rfl (by kernel_rfl)) rfl ?_
      exact ⟨_,.mk 6 0 t0u l [] [] [],rfl,t1v (tam hrw 6) HEx.out HEl.out _,⟨t8p HN.out (by have:=Hll.out;omega),rfl⟩,H5.out.row (by omega) Hb.out _⟩
set_option maxHeartbeats 64000000 in
theorem tid (T : Ty) (tv : Value) (S : SD) (kn : Nat) (h : Int) (n : TN) (h1 : 1 ≤ h) (hh : h ≤ 1000) (hkn : kn < T.nodes.length) (hnode : T.nodes[kn] = n) (hkd : n.kind = 12) (hk2 : n.kids.length = 2) (N : Nat) (hN : 1 ≤ N) (hkl : n.kids.length ≤ 3) (hv : ∀ k,NV T tv N S k (h - 1)) (w : World) (hS : SRC S w) (hT : TB S T tv w) : Calls Tryz.prog 40 #[.pointer (some ⟨S.b,0,none⟩),tv,.int .i64 (kn : Int),.int .i64 h] w (GV (fun V=>V.nodes ≤ 1 + 3 * N ∧ V.labels = []) S w):=by
  have hltS:=hS.lt
  obtain ⟨pT,cT,rfl,hR,-⟩:=id hT
  obtain ⟨a,o,cs,rfl,hal,-,hrange,hNC⟩:=hR.all hkn
  rw [hnode] at hNC
  obtain ⟨kd,lo_,hi_,tx,ks,fs,r0,r1⟩:=n
  obtain ⟨p1,c1,p2,c2,rfl,hI,hF⟩:=hNC
  simp only at hI hF hrange
  obtain rfl : kd = 12:=hkd
  simp only at hkl hk2
  have Hk2:=zH hk2
  clear hk2
  obtain ⟨w2,e9,hA,hC,hb⟩:=t1f w (.cells #[.slice (some ⟨a,o,none⟩) T.nodes.length cT,.int .i64 T.root] 31) (.cells #[.int .i64 0,.int .i64 0,.string ⟨#[]⟩,.slice none 0 0,.slice none 0 0,.slice none 0 0,.slice none 0 0] 28)
  have hs2 : w2.heap.size = w.heap.size + 2:=by rw [← e9];simp
  obtain ⟨w4,e8,hB4,hV4,hb4⟩:=t1f w2 (.cells #[.int .i64 12,.int .i64 lo_,.int .i64 hi_,.string tx,.slice p1 ks.length c1,.slice p2 fs.length c2,.int .i64 r0,.int .i64 r1] 48) (.cells #[.int .i64 0,.int .i64 0,.string ⟨#[]⟩,.slice none 0 0,.slice none 0 0,.slice none 0 0,.slice none 0 0] 28)
  have hs4 : w4.heap.size = w2.heap.size + 2:=by rw [← e8];simp
  have E8:=zH e8;clear e8
  have H2:=zH ((SR.refl hS).app hb)
  have H4:=zH (H2.out.step hb4)
  have hrg:=hrange _ H2.out.bel
  have a0:=t0l (hrg 0 _ rfl);have a1:=t0l (hrg 1 _ rfl);have a2:=t0l (hrg 2 _ rfl);have a3:=t0l (hrg 3 _ rfl)
  have a4:=t0l (hrg 4 _ rfl);have a5:=t0l (hrg 5 _ rfl);have a6:=t0l (hrg 6 _ rfl);have a7:=t0l (hrg 7 _ rfl)
  simp only [Nat.add_zero] at a0
  have HT:=zH (hT.sr H4.out);have HT0:=zH hT;have HI0:=zH hI
  have HI:=zH (show IS (wo S.b w4) (.slice p1 ks.length c1) ks from hI.below H4.out.bel)
  have HF:=zH (show Rw (wo S.b w4) p2 c2 4 fs FC from hF.below H4.out.bel fun _ _ _ h=>h)
  have hNC : NC (wo S.b w4) ⟨12,lo_,hi_,tx,ks,fs,r0,r1⟩ [.int .i64 12,.int .i64 lo_,.int .i64 hi_,.string tx,.slice p1 ks.length c1,.slice p2 fs.length c2,.int .i64 r0,.int .i64 r1]:=⟨p1,c1,p2,c2,rfl,HI.out,HF.out⟩
  have HNC:=zH hNC
  rw [hs2] at hB4 hV4
  have HB4:=zH hB4;have HV4:=zH hV4
  have HA4:=zH ((hb4.block w.heap.size (by omega)).trans hA)
  have HO4:=zH ((hb4.block (w.heap.size + 1) (by omega)).trans hC)
  obtain ⟨g0,g1⟩:=t0k hA
  have Hs4:=zH (show w4.heap.size = (w.heap.size + 4) by omega)
  have Hb:=zH (show (w.heap.size + 1) ≠ S.b by omega)
  have HEx:=zH (show lo (w.heap.size + 4) (w.heap.size + 1) = true by simp [lo])
  have HEl:=zH (show ∀ k,k < w.heap.size → lo (w.heap.size + 4) k = true from fun k hk=>by simp [lo];omega)
  have dk : decide (T.nodes.length ≤ kn) = false:=by simp;omega
  have dk2 : decide (kn < T.nodes.length) = true:=by simp [hkn]
  have dk3 : decide ((kn : Int) < 0) = false:=by simp
  have dh : decide (h ≤ 0) = false:=by simp;omega
  clear hB4 hV4 hA hC hb hb4 hR hrange hrg hI hF hNC hS hT hnode
  go_enter Tryz.func40,Tryz.ntmps40
  go_upto_region 1 with fail
  try rw [e9]
  go_upto_region 5 with fail
  (try have e8:=E8.out)
  try rw [hs2]
  try rw [e8]
  try rw [hs2]
  clear e9 e8 E8 g0 g1 a0 a1 a2 a3 a4 a5 a6 a7 dk dk3 dh hs2 hs4
  obtain ⟨⟨n0,n1,n2,n3⟩,n4,n5,n6,n7⟩:=t0y HB4.out
  have Hv:=zH hv
  clear hv
  have Hn2:=zH (show w.heap.size + 2 ≠ S.b by omega)
  have Hn3:=zH (show w.heap.size + 3 ≠ S.b by omega)
  have hw4 : (w.heap.size + 4) ≤ w4.heap.size:=by have:=Hs4.out;omega
  clear n0 n1 n2 n3 n4 n5 n6 n7
  have hnk:=(t0y HB4.out).1.1
  go_upto_region 23 with fail
  clear hnk
  go_loopw [11] (fun iv wr=>∃ (i : Nat) (l : List VV) (xs : List Value) (d : Nat) (lv : Value),iv = .int .i64 (i : Int) ∧ i ≤ ks.length ∧ l.length = i ∧ wr.heap[(w.heap.size + 3)]? = some (.cells #[.int .i64 0,.int .i64 0,.string ⟨#[]⟩,lv,.slice none 0 0,.slice none 0 0,.slice none 0 0] 28) ∧ wr.ownsRow (w.heap.size + 4) 28 7 lv l.length xs ∧ Ch 7 (VS (we (aE (w.heap.size + 4) lv (.slice none 0 0)) wr) d) l xs ∧ (∀ x ∈ l,x.nodes ≤ N) ∧ wr.heap[w.heap.size]? = some (.cells #[.slice (some ⟨a,o,none⟩) T.nodes.length cT,.int .i64 T.root] 31) ∧ wr.heap[(w.heap.size + 2)]? = some (.cells #[.int .i64 12,.int .i64 lo_,.int .i64 hi_,.string tx,.slice p1 ks.length c1,.slice p2 fs.length c2,.int .i64 r0,.int .i64 r1] 48) ∧ wr.heap[(w.heap.size + 1)]? = some (.cells #[.int .i64 0,.int .i64 0,.string ⟨#[]⟩,.slice none 0 0,.slice none 0 0,.slice none 0 0,.slice none 0 0] 28) ∧ SR S w wr) (fun iv _=>((ks.length : Int) - intOf iv).toNat)
  case atStart=>exact ⟨0,[],[],0,.slice none 0 0,rfl,by omega,rfl,HV4.out,World.ownsRow_nil _ _ _ _,Ch.nil,fun x hx=>by simp at hx,HA4.out,HB4.out,HO4.out,H4.out⟩
  case round =>
    obtain ⟨i,l,xs,d,lv,rfl,hi,hll,hVr,ho,hc,hN2,hAr,hBr,hOr,hsr⟩:=hrel
    obtain ⟨pa,ca,rfl⟩:=t0r ho
    have Ho:=zH ho;have Hc:=zH hc;have HN:=zH hN2;have Hsr:=zH hsr;have HVr:=zH hVr;have HAr:=zH hAr;have HBr:=zH hBr;have HOr:=zH hOr;have Hll:=zH hll
    have hsz2 : (w.heap.size + 4) ≤ wr.heap.size:=t0a hVr
    obtain ⟨⟨f0,f1,f2,f3⟩,f4,f5,f6⟩:=t0f hVr
    obtain ⟨⟨n0,n1,n2,n3⟩,n4,n5,n6,n7⟩:=t0y hBr
    obtain ⟨t0,t1⟩:=t0k hAr
    clear ho hc hN2 hsr hVr hAr hBr hOr hll
    obtain ⟨wq,hwq⟩ : ∃ wq : World,wq = wr:=⟨_,rfl⟩
    subst hwq
    by_cases hlt : i < ks.length
    · have d9 : decide (i < ks.length) = true:=by simp [hlt]
      obtain ⟨ak,ok,rfl,hab,hal2,hcell⟩:=t4k HI0.out hlt
      have Hab:=zH hab
      have hak : ak < (w.heap.size + 4):=by omega
      generalize ks[i] = kj at *
      have q0:=hcell _ Hsr.out
      have Yk:=zH (show wq.drew.cell? ⟨ak,ok + i,none⟩ = _ from q0)
      have Yt:=zH (show wq.drew.cell? ⟨w.heap.size,0,none⟩ = _ from t0)
      have Yn:=zH (show wq.drew.cell? ⟨w.heap.size + 2,4,none⟩ = _ from n4)
      have Yv:=zH (show wq.drew.cell? ⟨w.heap.size + 3,3,none⟩ = _ from f3)
      clear hcell hab
      go_wp2_with (first
        | ((with_reducible refine Lex.t0w ?_);refine fE (by repeat first | exact LexK.t0t | refine LexK.t0o rfl ?_ | refine LexK.t0p (by decide +kernel) ?_ | refine LexK.t0c rfl ⟨by omega,Hn3.out⟩ Yv.out ?_ | refine LexK.t0c rfl ⟨by omega,by omega⟩ Yt.out ?_ | refine LexK.t0c rfl ⟨by omega,Hn2.out⟩ Yn.out ?_ | refine LexK.t0c rfl ⟨by omega,Hab.out⟩ Yk.out ?_) ?_)
        | ((with_reducible refine Lex.t0q ?_);refine LexK.t0h (fun x=>x < (w.heap.size + 4) ∧ x ≠ S.b) (by kernel_rfl) (by decide +kernel) ?_)
        | (with_reducible first | refine qH ?_ | refine LexK.t0s ?_ | refine LexK.t0v ?_)
        | ((with_reducible refine Lex.t1b ?_);first | (refine LexK.t0e hex7.out ?_) | (refine LexK.t0e hex8.out ?_) | (refine LexK.t0e (LexK.Ext.alloc _ _) ?_) | (refine LexK.t0e (LexK.Ext.refl _) ?_))
        | (go_at_call 25;refine (Hv.out _ wq.drew Hsr.out.drew.src (HT0.out.sr Hsr.out.drew)).mono ?_;rintro e w7 ⟨v7,X,rfl,hx,hq,hs⟩;obtain ⟨dv,cs,rfl,hx⟩:=hx;obtain ⟨x1,x2,x3,x4,x5,x6,x7,x8,rfl⟩:=hx.seven;have HX:=zH hx;have Hq:=zH hq.2;have hex7:=zH (t2v hs (by exact hsz2));have Hs7:=zH ((SR.refl Hsr.out.src).drew.trans hs);have HoK7:=zH (hs.owns (t1s Ho.out) (by omega));have Hone:=zH hx.one;have hw7 : (w.heap.size + 4) ≤ w7.heap.size:=(Nat.le_trans hsz2 hs.size);clear hx hq hs)
        | (at_builtin;(refine t0n rfl (.tmp 97) (.tmp 108) 23 rfl 28 (by kernel_rfl) t1w rfl (by decide) (by decide) (w.heap.size + 4) _ w7.heap.size [.int .i64 X.kind,.int .i64 X.num,.string X.text,.slice x1 X.kids.length x2,.slice x3 X.keys.length x4,.slice x5 X.ents.length x6,.slice x7 X.labels.length x8] (heap_alloc_new w7 _) (Nat.le_trans hw7 (by simp)) rfl Hone.out (.slice pa l.length ca) l.length xs rfl (t0d HoK7.out ((Below.refl _ _).alloc (Nat.le_refl _) _) (Nat.le_refl _)) (by have:=Hll.out;omega) rfl ?_);intro v8 w8 ho8 hf8;have hb8:=(hf8.below (Nat.le_trans hw7 (by simp)) (by simp) fun g hg=>(HoK7.out.lt g hg).1);have hex8:=zH (show LexK.Ext (fun x=>x < (w.heap.size + 4) ∧ x ≠ S.b) (w7.alloc (.cells #[.int .i64 X.kind,.int .i64 X.num,.string X.text,.slice x1 X.kids.length x2,.slice x3 X.keys.length x4,.slice x5 X.ents.length x6,.slice x7 X.labels.length x8] 28)) w8 from t4r hb8);have Hb8:=zH (((Below.refl w7.heap.size w7).alloc (Nat.le_refl _) (.cells #[.int .i64 X.kind,.int .i64 X.num,.string X.text,.slice x1 X.kids.length x2,.slice x3 X.keys.length x4,.slice x5 X.ents.length x6,.slice x7 X.labels.length x8] 28)).mono hw7 |>.trans hb8);obtain ⟨p8,c8,rfl⟩:=t0r ho8;have Ho8:=zH ho8;have hV8:=(Hb8.out.block (w.heap.size + 3) (by omega)).trans ((Hs7.out.block (by omega) Hn3.out).trans HVr.out);have HU:=zH (Upd.set (i:=3) (v:=.slice p8 (l.length + 1) c8) (Upd.refl hV8));have hz0 : w8.cell? ⟨w.heap.size + 3,3,none⟩ = some (.slice pa l.length ca):=(by simp [World.cell?,hV8]);have hz1 : w8.frozen? ⟨w.heap.size + 3,3,none⟩ = false:=(by simp [World.frozen?,hV8]);have Hf8:=zH hf8;clear ho8 hf8 hb8 hV8))
      have hV9:=HU.out.blk
      have hcA:=t4z Hc.out Hs7.out (by omega) HX.out (t3g Ho.out (World.ownsRow_nil wq 0 0 0) hsz2) Hf8.out
      have hkp : ∀ k,k < (w.heap.size + 4) → k ≠ S.b → k ≠ (w.heap.size + 3) → (w8.setCell ⟨w.heap.size + 3,3,none⟩ (.slice p8 (l.length + 1) c8)).heap[k]? = wq.heap[k]?:=fun k h1 h2 h3=>(HU.out.other k h3).trans ((Hb8.out.block k h1).trans (Hs7.out.block (by omega) h2))
      refine ⟨⟨i + 1,l ++ [X],xs ++ [.int .i64 X.kind,.int .i64 X.num,.string X.text,.slice x1 X.kids.length x2,.slice x3 X.keys.length x4,.slice x5 X.ents.length x6,.slice x7 X.labels.length x8],max d dv,.slice p8 (l.length + 1) c8,by first | rfl | (congr 1),by omega,by rw [List.length_append,Hll.out];rfl,by simpa using hV9,by rw [List.length_append];exact t1r Ho8.out HU.out (by omega),?_,fun x hx=>?_,?_,?_,?_,((Hsr.out.trans Hs7.out).app (Hb8.out.mono (by omega))).app (HU.out.below (by omega))⟩,by simp [intOf];omega⟩
      · exact hcA.mono fun x cs _ h=>h.below (by rw [t0j];exact t1n HU.out (aE_b (by omega)))
      · rcases List.mem_append.1 hx with hx | hx
        · exact HN.out x hx
        · rw [List.mem_singleton.1 hx];exact Hq.out
      · exact (hkp _ (by omega) (by omega) (by omega)).trans HAr.out
      · exact (hkp _ (by omega) (by omega) (by omega)).trans HBr.out
      · exact (hkp _ (by omega) (by omega) (by omega)).trans HOr.out
    · have d9 : decide (i < ks.length) = false:=by simp;omega
      obtain rfl : i = ks.length:=by omega
      go_upto_region 26 with fail
      clear f0 f1 f2 f3 f4 f5 f6 n1 n2 n3 n4 n5 n6 n7 t0 t1
      have hz0 : wq.cell? ⟨w.heap.size + 3,0,none⟩ = some (.int .i64 0):=by simp [World.cell?,HVr.out]
      have hz1 : wq.frozen? ⟨w.heap.size + 3,0,none⟩ = false:=by simp [World.frozen?,HVr.out]
      have HU6:=zH (Upd.set (i:=0) (v:=.int .i64 6) (Upd.refl HVr.out))
      go_upto_region 27 with fail
      have hV5:=HU6.out.blk
      have Ho5:=zH (t1r Ho.out HU6.out (by omega))
      have HcE:=zH (Hc.out.mono fun x cs _ h=>(h.below (by rw [t0j];exact t1n HU6.out (aE_b (by omega)))).sub (aE_lo _ _ _ _))
      have H5:=zH (Hsr.out.app (HU6.out.below (B:=w.heap.size) (by omega)))
      have Z5:=zH ((HU6.out.other (w.heap.size + 1) (by omega)).trans HOr.out)
      have HB5:=zH ((HU6.out.other (w.heap.size + 2) (by omega)).trans HBr.out)
      clear hz0 hz1 n0
      generalize wq.setCell ⟨w.heap.size + 3,0,none⟩ (.int .i64 6) = w5 at *
      simp at hV5
      have HV5:=zH hV5
      have n0:=(t0y HB5.out).1.1
      clear hV5
      have hz0 : w5.cell? ⟨w.heap.size + 3,0,none⟩ = some (.int .i64 6):=by simp [World.cell?,HV5.out]
      have hz1 : w5.frozen? ⟨w.heap.size + 3,0,none⟩ = false:=by simp [World.frozen?,HV5.out]
      have HU7:=zH (Upd.set (i:=0) (v:=.int .i64 7) (Upd.refl HV5.out))
      go_upto_region 29 with fail
      have hV6:=HU7.out.blk
      have Ho6:=zH (t1r Ho5.out HU7.out (by omega))
      have Hc6:=zH (Hc.out.mono fun x cs _ h=>(h.below (by rw [t0j];exact t1n HU6.out (aE_b (by omega)))).below (by rw [t0j];exact t1n HU7.out (aE_b (by omega))))
      have H6:=zH (H5.out.app (HU7.out.below (B:=w.heap.size) (by omega)))
      have Z6:=zH ((HU7.out.other (w.heap.size + 1) (by omega)).trans Z5.out)
      clear hz0 hz1 n0
      generalize w5.setCell ⟨w.heap.size + 3,0,none⟩ (.int .i64 7) = w6 at *
      simp at hV6
      have HV6:=zH hV6
      obtain ⟨⟨f0,f1,f2,f3⟩,f4,f5,f6⟩:=t0f hV6
      clear hV6
      obtain ⟨X,Y,rfl⟩:=tjz (show l.length = 2 by have:=Hll.out;have:=Hk2.out;omega)
      have hxs:=Hc6.out.1
      have hx0:=Hc6.out.2 0 (by simp)
      have hy0:=Hc6.out.2 1 (by simp)
      obtain ⟨xs0,xs1,rfl,hl0⟩ : ∃ a b,xs = a ++ b ∧ a.length = 7:=⟨xs.take 7,xs.drop 7,(List.take_append_drop 7 xs).symm,by rw [List.length_take,hxs];rfl⟩
      have hl1 : xs1.length = 7:=by rw [List.length_append,hl0] at hxs;have : [X,Y].length * 7 = 14:=rfl;omega
      simp only [Nat.zero_mul,List.drop_zero,Nat.one_mul,List.take_left' hl0,List.drop_left' hl0,List.take_of_length_le (Nat.le_of_eq hl1),List.getElem_cons_zero,List.getElem_cons_succ] at hx0 hy0
      obtain ⟨x1,x2,x3,x4,x5,x6,x7,x8,rfl⟩:=hx0.seven
      obtain ⟨y1,y2,y3,y4,y5,y6,y7,y8,rfl⟩:=hy0.seven
      obtain ⟨g,cap,hgf⟩ : ∃ g cap,Value.slice pa [X,Y].length ca = .slice (some ⟨g,0,none⟩) [X,Y].length cap:=by
        rcases Ho6.out.2 with ⟨_,h0⟩ | ⟨g,cap,cur,hv,_⟩
        · simp at h0
        · exact ⟨g,cap,hv⟩
      injection hgf with hg1 _ hg2
      subst hg1 hg2
      have hg0:=Ho6.out.cellAt 7 (by simp)
      have HX0:=zH hx0;have HY0:=zH hy0
      have Hd:=zH (show decide (1 < [X,Y].length) = true by simp)
      clear hx0 hy0 hxs hl0 hl1
      have hg7 : w6.cell? ⟨g,7,none⟩ = some (.int .i64 Y.kind):=by simpa using hg0
      clear hg0
      have hE2 : ([X,Y] : List VV).length = 2:=rfl
      by_cases hyk : Y.kind = 7
      · have dyk : (Y.kind == 7) = true:=by simp [hyk]
        have dyk2 : (Y.kind != 7) = false:=by simp [hyk]
        clear hyk
        obtain ⟨pz,cz,ez,hrw⟩:=t1o (t1q Ho6.out (t1g _)) (Hc6.out.mono fun x cs _ h=>h.sub (aE_lo _ _ _ _)) (by simp)
        injection ez with ez1 _ ez3
        subst ez1 ez3
        go_wp2_with (first
          | (with_reducible refine wpList_store_row rfl 28 (.tmp 8) (.tmp 126) rfl _ _ rfl rfl _ _ Z6.out (by kernel_rfl) (by kernel_rfl) (by kernel_rfl) ?_))
        refine bodyPost_ret (results_cell_row rfl _ _ (w.heap.size + 1) 28 _ (0,0) _ rfl (setRow_heap _ _ _ _ _ _ Z6.out) rfl rfl (by kernel_rfl)) rfl ?_
        exact ⟨_,.mk 7 0 t0u [X,Y] [] [] [],rfl,t1v (tam hrw 7) HEx.out HEl.out _,⟨t8p HN.out (by simp),rfl⟩,H6.out.row (by omega) Hb.out _⟩
      · have dyk : (Y.kind == 7) = false:=by simp [hyk]
        have dyk2 : (Y.kind != 7) = true:=by simp [hyk]
        clear hyk
        have hw6 : (w.heap.size + 4) ≤ w6.heap.size:=t0a HV6.out
        go_upto_region 30 with fail
        have YV:=zH (show w6.drew.cell? ⟨w.heap.size + 3,3,none⟩ = _ from f3)
        go_upto_region 31 with (first
          | ((with_reducible refine Lex.t0w ?_);refine fE (by repeat first | exact LexK.t0t | refine LexK.t0o rfl ?_ | refine LexK.t0p (by decide +kernel) ?_ | refine LexK.t0c rfl ⟨by omega,Hn3.out⟩ YV.out ?_) ?_)
          | ((with_reducible refine Lex.t0q ?_);refine LexK.t0h (fun x=>x < (w.heap.size + 4) ∧ x ≠ S.b) (by kernel_rfl) (by decide +kernel) ?_)
          | (with_reducible first | refine qH ?_ | refine LexK.t0s ?_ | refine LexK.t0v ?_)
          | ((with_reducible refine Lex.t1b ?_);first | (refine LexK.t0e hex7.out ?_) | (refine LexK.t0e (LexK.Ext.alloc _ _) ?_) | (refine LexK.t0e (LexK.Ext.refl _) ?_))
          | (go_at_call 43;go_loud (refine (t3f w6.drew).mono ?_);rintro e w7 ⟨rfl,hb⟩;have Hb7:=zH ((Below.refl w6.heap.size w6).drew.trans hb);have hex7:=zH (t4r (S:=S) (hb.mono hw6));have ho7:=t0d Ho6.out Hb7.out (Nat.le_refl _);have Ho7:=zH ho7;have z0 : w7.cell? ⟨g,7,none⟩ = some (.int .i64 Y.kind):=(by simpa using ho7.cellAt 7 (by simp));have z1 : w7.cell? ⟨g,8,none⟩ = some (.int .i64 Y.num):=(by simpa using ho7.cellAt 8 (by simp));have z2 : w7.cell? ⟨g,9,none⟩ = some (.string Y.text):=(by simpa using ho7.cellAt 9 (by simp));have z3 : w7.cell? ⟨g,10,none⟩ = some (.slice y1 Y.kids.length y2):=(by simpa using ho7.cellAt 10 (by simp));have z4 : w7.cell? ⟨g,11,none⟩ = some (.slice y3 Y.keys.length y4):=(by simpa using ho7.cellAt 11 (by simp));have z5 : w7.cell? ⟨g,12,none⟩ = some (.slice y5 Y.ents.length y6):=(by simpa using ho7.cellAt 12 (by simp));have z6 : w7.cell? ⟨g,13,none⟩ = some (.slice y7 Y.labels.length y8):=(by simpa using ho7.cellAt 13 (by simp));have hz1:=ho7.frozenAt;clear hb ho7))
        have hgo : ∃ cur,(w.heap.size + 4) ≤ g ∧ w7.heap[g]? = some (.cells cur 28 (0,0)):=by
          rcases Ho7.out.2 with ⟨_,h0⟩ | ⟨g',cap',cur,hv,hgb,hgc,_⟩
          · simp at h0
          · injection hv with hv1
            injection hv1 with hv1
            injection hv1 with hv1
            subst hv1
            exact ⟨cur,hgb,hgc⟩
        obtain ⟨cur,hgb,hgc⟩:=hgo
        have HU:=zH (Upd.set (i:=13) (v:=.slice none 0 0) (Upd.set (i:=12) (v:=.slice none 0 0) (Upd.set (i:=11) (v:=.slice none 0 0) (Upd.set (i:=10) (v:=.slice none 0 0) (Upd.set (i:=9) (v:=.string ⟨#[]⟩) (Upd.set (i:=8) (v:=.int .i64 0) (Upd.set (i:=7) (v:=.int .i64 5) (Upd.refl hgc))))))))
        have Ho8:=zH (show (((((((w7.setCell ⟨g,7,none⟩ (.int .i64 5)).setCell ⟨g,8,none⟩ (.int .i64 0)).setCell ⟨g,9,none⟩ (.string ⟨#[]⟩)).setCell ⟨g,10,none⟩ (.slice none 0 0)).setCell ⟨g,11,none⟩ (.slice none 0 0)).setCell ⟨g,12,none⟩ (.slice none 0 0)).setCell ⟨g,13,none⟩ (.slice none 0 0)).ownsRow (w.heap.size + 4) 28 7 (.slice (some ⟨g,0,none⟩) [X,VV.mk 5 0 t0u [] [] [] []].length ca) [X,VV.mk 5 0 t0u [] [] [] []].length ([.int .i64 X.kind,.int .i64 X.num,.string X.text,.slice x1 X.kids.length x2,.slice x3 X.keys.length x4,.slice x5 X.ents.length x6,.slice x7 X.labels.length x8] ++ [.int .i64 5,.int .i64 0,.string ⟨#[]⟩,.slice none 0 0,.slice none 0 0,.slice none 0 0,.slice none 0 0]) from (((((((Ho7.out.stored 7 (.int .i64 5)).1.stored 8 (.int .i64 0)).1.stored 9 (.string ⟨#[]⟩)).1.stored 10 (.slice none 0 0)).1.stored 11 (.slice none 0 0)).1.stored 12 (.slice none 0 0)).1.stored 13 (.slice none 0 0)).1)
        have H8:=zH ((H6.out.app (Hb7.out.mono (by omega))).app (HU.out.below (B:=w.heap.size) (by omega)))
        have Z8:=zH ((HU.out.other (w.heap.size + 1) (by omega)).trans ((Hb7.out.block (w.heap.size + 1) (by omega)).trans Z6.out))
        have hV8:=(HU.out.other (w.heap.size + 3) (by omega)).trans ((Hb7.out.block (w.heap.size + 3) (by omega)).trans HV6.out)
        have hXE : VS (we (lo (w.heap.size + 4)) (((((((w7.setCell ⟨g,7,none⟩ (.int .i64 5)).setCell ⟨g,8,none⟩ (.int .i64 0)).setCell ⟨g,9,none⟩ (.string ⟨#[]⟩)).setCell ⟨g,10,none⟩ (.slice none 0 0)).setCell ⟨g,11,none⟩ (.slice none 0 0)).setCell ⟨g,12,none⟩ (.slice none 0 0)).setCell ⟨g,13,none⟩ (.slice none 0 0))) (max d 1) X [.int .i64 X.kind,.int .i64 X.num,.string X.text,.slice x1 X.kids.length x2,.slice x3 X.keys.length x4,.slice x5 X.ents.length x6,.slice x7 X.labels.length x8]:=(((HX0.out.below (by rw [t0j];exact t1l Hb7.out)).below (by rw [t0j];exact t1n HU.out (by simp [aE,Value.ownBlock]))).sub (aE_lo _ _ _ _)).up (Nat.le_max_left _ _)
        have hNE : VS (we (lo (w.heap.size + 4)) (((((((w7.setCell ⟨g,7,none⟩ (.int .i64 5)).setCell ⟨g,8,none⟩ (.int .i64 0)).setCell ⟨g,9,none⟩ (.string ⟨#[]⟩)).setCell ⟨g,10,none⟩ (.slice none 0 0)).setCell ⟨g,11,none⟩ (.slice none 0 0)).setCell ⟨g,12,none⟩ (.slice none 0 0)).setCell ⟨g,13,none⟩ (.slice none 0 0))) (max d 1) (VV.mk 5 0 t0u [] [] [] []) [.int .i64 5,.int .i64 0,.string ⟨#[]⟩,.slice none 0 0,.slice none 0 0,.slice none 0 0,.slice none 0 0]:=VS.up (d:=1) ⟨none,0,none,0,none,0,none,0,rfl,Rw.nil _ _ _ _ _,Rw.nil _ _ _ _ _,Rw.nil _ _ _ _ _,Rw.nil _ _ _ _ _⟩ (Nat.le_max_right _ _)
        have HcE:=zH ((Ch.single (sz:=7) (P:=VS (we (lo (w.heap.size + 4)) (((((((w7.setCell ⟨g,7,none⟩ (.int .i64 5)).setCell ⟨g,8,none⟩ (.int .i64 0)).setCell ⟨g,9,none⟩ (.string ⟨#[]⟩)).setCell ⟨g,10,none⟩ (.slice none 0 0)).setCell ⟨g,11,none⟩ (.slice none 0 0)).setCell ⟨g,12,none⟩ (.slice none 0 0)).setCell ⟨g,13,none⟩ (.slice none 0 0))) (max d 1)) (x:=X) rfl hXE).append (Ch.single (sz:=7) (P:=VS (we (lo (w.heap.size + 4)) (((((((w7.setCell ⟨g,7,none⟩ (.int .i64 5)).setCell ⟨g,8,none⟩ (.int .i64 0)).setCell ⟨g,9,none⟩ (.string ⟨#[]⟩)).setCell ⟨g,10,none⟩ (.slice none 0 0)).setCell ⟨g,11,none⟩ (.slice none 0 0)).setCell ⟨g,12,none⟩ (.slice none 0 0)).setCell ⟨g,13,none⟩ (.slice none 0 0))) (max d 1)) (x:=VV.mk 5 0 t0u [] [] [] []) rfl hNE))
        have HnE:=zH (show ∀ x ∈ [X,VV.mk 5 0 t0u [] [] [] []],x.nodes ≤ N from fun x hx=>by
          rcases List.mem_cons.1 hx with hx | hx
          · rw [hx];exact HN.out X (by simp)
          · rw [List.mem_singleton.1 hx];simp [VV.nodes,nodesVs,nodesEs];omega)
        clear hXE hNE z0 z1 z2 z3 z4 z5 z6 hz1 f0 f1 f2 f3 f4 f5 f6 hgc
        generalize (((((((w7.setCell ⟨g,7,none⟩ (.int .i64 5)).setCell ⟨g,8,none⟩ (.int .i64 0)).setCell ⟨g,9,none⟩ (.string ⟨#[]⟩)).setCell ⟨g,10,none⟩ (.slice none 0 0)).setCell ⟨g,11,none⟩ (.slice none 0 0)).setCell ⟨g,12,none⟩ (.slice none 0 0)).setCell ⟨g,13,none⟩ (.slice none 0 0)) = w8 at *
        obtain ⟨⟨f0,f1,f2,f3⟩,f4,f5,f6⟩:=t0f hV8
        obtain ⟨pz,cz,ez,hrw⟩:=t1o (t1q Ho8.out (t1g _)) HcE.out (by simp)
        injection ez with ez1 _ ez3
        subst ez1 ez3
        clear hV8
        go_wp2_with (first
          | (with_reducible refine wpList_store_row rfl 28 (.tmp 8) (.tmp 126) rfl _ _ rfl rfl _ _ Z8.out (by kernel_rfl) (by kernel_rfl) (by kernel_rfl) ?_))
        refine bodyPost_ret (results_cell_row rfl _ _ (w.heap.size + 1) 28 _ (0,0) _ rfl (setRow_heap _ _ _ _ _ _ Z8.out) rfl rfl (by kernel_rfl)) rfl ?_
        exact ⟨_,.mk 7 0 t0u [X,VV.mk 5 0 t0u [] [] [] []] [] [] [],rfl,t1v (tam hrw 7) HEx.out HEl.out _,⟨t8p HnE.out (by simp),rfl⟩,H8.out.row (by omega) Hb.out _⟩
end Go.Proofs.YtjgldaaofdpcgaaGreat
