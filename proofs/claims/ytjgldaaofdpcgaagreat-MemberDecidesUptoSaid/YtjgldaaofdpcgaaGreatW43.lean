/- Walks and plain facts for the laws of membership, for all values and types that the heap holds (texts C4). -/
import Derived.Test.YtjgldaaofdpcgaaGreatW03
import Derived.Test.YtjgldaaofdpcgaaGreatW42
set_option linter.unusedVariables false
set_option linter.unusedSimpArgs false
namespace Go.Proofs.YtjgldaaofdpcgaaGreat
open Go.RowKit Go.Ident
set_option maxRecDepth 100000
theorem vs_of {w : World} {cs : List Value} {V : VV} (h : VW w (.agg cs.toArray) V) : ∃ d,VS w d V cs:=by
  obtain ⟨d,cs',e,h⟩:=h
  injection e with e
  have : cs = cs':=by simpa using e
  exact ⟨d,this ▸ h⟩
theorem tbj {S : SD} {T : Ty} {a o c j : Nat} {r : Value} {w w' : World} (h : TB S T (.agg #[.slice (some ⟨a,o,none⟩) T.nodes.length c,r]) w) (hj : j < T.nodes.length) (hs : SR S w w') : w'.cell? ⟨a,o + j * 8,none⟩ = some (.int .i64 T.nodes[j].kind) ∧ w'.cell? ⟨a,o + j * 8 + 3,none⟩ = some (.string T.nodes[j].text):=by
  obtain ⟨p,c',e,hR,-⟩:=h
  obtain ⟨a',o',cs,e2,-,-,hrange,hNC⟩:=hR.all hj
  injection e with e
  have e3 : p = some ⟨a,o,none⟩:=by simp at e;exact e.1.1.symm
  rw [e3] at e2
  injection e2 with e2
  injection e2 with e4 e5
  subst e4 e5
  obtain ⟨p1,c1,p2,c2,rfl,-,-⟩:=hNC
  have hr:=hrange _ hs.bel
  exact ⟨t0l (hr 0 _ rfl),t0l (hr 3 _ rfl)⟩
theorem tji {w : World} {V : VV} {a0 a1 a2 a3 a4 a5 : Value} {q7 : Option Addr} {q8 : Nat} (h : VW w (.agg #[a0,a1,a2,a3,a4,a5,.slice q7 V.labels.length q8]) V) : SS w (.slice q7 V.labels.length q8) V.labels:=by
  obtain ⟨d,cs,e,h⟩:=h
  cases d with
  | zero=>exact h.elim
  | succ d =>
    obtain ⟨p1,c1,p2,c2,p3,c3,p4,c4,rfl,h1,h2,h3,h4⟩:=h
    simp at e
    obtain ⟨-,-,-,-,-,-,rfl,rfl⟩:=e
    exact ⟨_,_,rfl,h4⟩
theorem SS.ch {w : World} {p : Option Addr} {c : Nat} {l : List ByteArray} (h : SS w (.slice p l.length c) l) : ∃ cs,RC w 1 p l.length cs ∧ Ch 1 SC l cs:=by
  obtain ⟨p',c',e,h⟩:=h
  cases e
  exact h.ch
set_option maxHeartbeats 64000000 in
theorem tih (T : Ty) (tv : Value) (S : SD) (kn : Nat) (h : Int) (n : TN) (h1 : 1 ≤ h) (hh : h ≤ 1000) (hkn : kn < T.nodes.length) (hnode : T.nodes[kn] = n) (hkd : n.kind = 17) (N Lb : Nat) (hk1 : 1 ≤ n.kids.length) (hkl : n.kids.length ≤ 3) (hLb : Lb ≤ 50000) (hks : ∀ k ∈ n.kids,0 ≤ k ∧ k < (T.nodes.length : Int)) (hnear : ∀ k ∈ n.kids,NB T tv N Lb S k h) (w : World) (hS : SRC S w) (hT : TB S T tv w) : Calls Tryz.prog 40 #[.pointer (some ⟨S.b,0,none⟩),tv,.int .i64 (kn : Int),.int .i64 h] w (GV (fun V=>V.nodes ≤ N ∧ V.labels.length ≤ Lb + 3) S w):=by
  have hltS:=hS.lt
  obtain ⟨pT,cT,rfl,hR,-⟩:=id hT
  obtain ⟨a,o,cs,rfl,hal,-,hrange,hNC⟩:=hR.all hkn
  rw [hnode] at hNC
  obtain ⟨kd,lo_,hi_,tx,ks,fs,r0,r1⟩:=n
  obtain ⟨p1,c1,p2,c2,rfl,hI,hF⟩:=hNC
  simp only at hI hF hrange
  obtain rfl : kd = 17:=hkd
  simp only at hk1 hkl hks hnear
  obtain ⟨w2,e9,hA,hC,hb⟩:=t1f w (.cells #[.slice (some ⟨a,o,none⟩) T.nodes.length cT,.int .i64 T.root] 31) (.cells #[.int .i64 0,.int .i64 0,.string ⟨#[]⟩,.slice none 0 0,.slice none 0 0,.slice none 0 0,.slice none 0 0] 28)
  have hs2 : w2.heap.size = w.heap.size + 2:=by rw [← e9];simp
  obtain ⟨w4,e8,hB4,hV4,hb4⟩:=t1f w2 (.cells #[.int .i64 17,.int .i64 lo_,.int .i64 hi_,.string tx,.slice p1 ks.length c1,.slice p2 fs.length c2,.int .i64 r0,.int .i64 r1] 48) (.cells #[.int .i64 0,.int .i64 0,.string ⟨#[]⟩,.slice none 0 0,.slice none 0 0,.slice none 0 0,.slice none 0 0] 28)
  have hs4 : w4.heap.size = w2.heap.size + 2:=by rw [← e8];simp
  have E8:=zH e8;clear e8
  have H2:=zH ((SR.refl hS).app hb)
  have H4:=zH (H2.out.step hb4)
  have hrg:=hrange _ H2.out.bel
  have a0:=t0l (hrg 0 _ rfl);have a1:=t0l (hrg 1 _ rfl);have a2:=t0l (hrg 2 _ rfl);have a3:=t0l (hrg 3 _ rfl)
  have a4:=t0l (hrg 4 _ rfl);have a5:=t0l (hrg 5 _ rfl);have a6:=t0l (hrg 6 _ rfl);have a7:=t0l (hrg 7 _ rfl)
  simp only [Nat.add_zero] at a0
  have HT:=zH (hT.sr H4.out);have HT0:=zH hT;have HI0:=zH hI
  have HI:=zH (show IS (wo S.b w4) (.slice p1 ks.length c1) ks from hI.below H4.out.bel)
  have HF:=zH (show Rw (wo S.b w4) p2 c2 4 fs FC from hF.below H4.out.bel fun _ _ _ h=>h)
  have hNC : NC (wo S.b w4) ⟨17,lo_,hi_,tx,ks,fs,r0,r1⟩ [.int .i64 17,.int .i64 lo_,.int .i64 hi_,.string tx,.slice p1 ks.length c1,.slice p2 fs.length c2,.int .i64 r0,.int .i64 r1]:=⟨p1,c1,p2,c2,rfl,HI.out,HF.out⟩
  have HNC:=zH hNC
  rw [hs2] at hB4 hV4
  have HB4:=zH hB4;have HV4:=zH hV4
  have HA4:=zH ((hb4.block w.heap.size (by omega)).trans hA)
  have HO4:=zH ((hb4.block (w.heap.size + 1) (by omega)).trans hC)
  obtain ⟨g0,g1⟩:=t0k hA
  have Hs4:=zH (show w4.heap.size = (w.heap.size + 4) by omega)
  have Hb:=zH (show (w.heap.size + 1) ≠ S.b by omega)
  have HEx:=zH (show lo (w.heap.size + 4) (w.heap.size + 1) = true by simp [lo])
  have HEl:=zH (show ∀ k,k < w.heap.size → lo (w.heap.size + 4) k = true from fun k hk=>by simp [lo];omega)
  have dk : decide (T.nodes.length ≤ kn) = false:=by simp;omega
  have dk2 : decide (kn < T.nodes.length) = true:=by simp [hkn]
  have dk3 : decide ((kn : Int) < 0) = false:=by simp
  have dh : decide (h ≤ 0) = false:=by simp;omega
  clear hB4 hV4 hA hC hb hb4 hR hrange hrg hI hF hNC hS hT hnode
  go_enter Tryz.func40,Tryz.ntmps40
  go_upto_region 1 with fail
  try rw [e9]
  go_upto_region 5 with fail
  (try have e8:=E8.out)
  try rw [hs2]
  try rw [e8]
  try rw [hs2]
  clear e9 e8 E8 g0 g1 a0 a1 a2 a3 a4 a5 a6 a7 dk dk3 dh hs2 hs4
  obtain ⟨⟨n0,n1,n2,n3⟩,n4,n5,n6,n7⟩:=t0y HB4.out
  have Hv:=zH hnear
  have Hks:=zH hks
  clear hnear hks
  obtain ⟨t0,t1⟩:=t0k HA4.out
  have hwo : (w.heap.size + 4) ≤ w4.heap.size:=by have:=Hs4.out;omega
  have YT:=zH (show w4.drew.cell? ⟨w.heap.size,0,none⟩ = _ from t0)
  have YN:=zH (show w4.drew.cell? ⟨w.heap.size + 2,4,none⟩ = _ from n4)
  have Hn2:=zH (show w.heap.size + 2 ≠ S.b by omega)
  have Hn3:=zH (show w.heap.size + 3 ≠ S.b by omega)
  go_upto_region 39 with fail
  go_upto_region 40 with (first
    | ((with_reducible refine Lex.t0w ?_);refine fE (by repeat first | exact LexK.t0t | refine LexK.t0o rfl ?_ | refine LexK.t0p (by decide +kernel) ?_ | refine LexK.t0c rfl ⟨by omega,by omega⟩ YT.out ?_ | refine LexK.t0c rfl ⟨by omega,by omega⟩ YN.out ?_ | refine LexK.t0c rfl ⟨by omega,Hab.out⟩ YK.out ?_) ?_)
    | ((with_reducible refine Lex.t0q ?_);refine LexK.t0h (fun x=>x < (w.heap.size + 4) ∧ x ≠ S.b) (by kernel_rfl) (by decide +kernel) ?_)
    | (with_reducible first | refine qH ?_ | refine LexK.t0s ?_ | refine LexK.t0v ?_)
    | ((with_reducible refine Lex.t1b ?_);first | (refine LexK.t0e hex5.out ?_) | (refine LexK.t0e hex6.out ?_) | (refine LexK.t0e (LexK.Ext.alloc _ _) ?_) | (refine LexK.t0e (LexK.Ext.refl _) ?_))
    | (go_at_call 24;refine (t0z S (ks.length : Int) w4.drew H4.out.drew.src (by omega)).mono ?_;rintro e w6 ⟨y,rfl,hs,h0y,h1y,-⟩;have h1y:=h1y (by omega);obtain ⟨m,rfl⟩ : ∃ m : Nat,y = (m : Int):=⟨y.toNat,by omega⟩;have hmk : m < ks.length:=(by omega);have dmk : decide (m < ks.length) = true:=(by simp [hmk]);have hex6:=zH (t2v hs (by exact hwo));have H6:=zH (H4.out.drew.trans hs);have HS6:=zH ((SR.refl H4.out.src).drew.trans hs);have Z6:=zH ((HS6.out.block (t0a HO4.out) Hb.out).trans HO4.out);clear t0 t1 n4;have t0 : w6.cell? ⟨w.heap.size,0,none⟩ = _:=t1p HS6.out (t0k HA4.out).1 (by omega) (by omega);have t1 : w6.cell? ⟨w.heap.size,1,none⟩ = _:=t1p HS6.out (t0k HA4.out).2 (by omega) (by omega);have n4 : w6.cell? ⟨w.heap.size + 2,4,none⟩ = _:=t1p HS6.out YN.out (by omega) (by omega);obtain ⟨ak,ok,rfl,hab,hal2,hcell⟩:=t4k HI.out hmk;have Hab:=zH hab;have q0:=hcell _ HS6.out;have Hmem:=zH (List.getElem_mem hmk);have YK:=zH (show w4.drew.cell? ⟨ak,ok + m,none⟩ = _ from hcell _ (SR.refl H4.out.src).drew);generalize hkj : ks[m] = kj at *;have hw6 : (w.heap.size + 4) ≤ w6.heap.size:=Nat.le_trans hwo HS6.out.size;clear hs hcell hkj)
    | (go_at_call 40;refine (Hv.out kj Hmem.out w6 H6.out.src (HT.out.sr HS6.out)).mono ?_;rintro e w5 ⟨v5,Xo,rfl,hx,hq,hs⟩;obtain ⟨dv,cs,rfl,hx⟩:=hx;obtain ⟨y1,y2,y3,y4,y5,y6,y7,y8,rfl⟩:=hx.seven;have HX:=zH (show VW (we (lo (w.heap.size + 4)) w5) _ Xo from ⟨dv,_,rfl,hx.sub (t1m w5 hw6)⟩);have Hq:=zH hq;have hex5:=zH (t2v hs hw6);have H5:=zH (H6.out.trans hs);have HS5:=zH (HS6.out.trans hs);have V5:=zH ((HS5.out.block (t0a HV4.out) Hn3.out).trans HV4.out);clear hx hq hs)
    | (with_reducible refine wpList_store_row rfl 28 (.tmp 10) (.tmp 170) rfl _ _ rfl rfl _ _ V5.out (by kernel_rfl) (by kernel_rfl) (by kernel_rfl) ?_))
  have hV7 : (w5.setRow (w.heap.size + 3) #[.int .i64 Xo.kind,.int .i64 Xo.num,.string Xo.text,.slice y1 Xo.kids.length y2,.slice y3 Xo.keys.length y4,.slice y5 Xo.ents.length y6,.slice y7 Xo.labels.length y8]).heap[(w.heap.size + 3)]? = some (.cells #[.int .i64 Xo.kind,.int .i64 Xo.num,.string Xo.text,.slice y1 Xo.kids.length y2,.slice y3 Xo.keys.length y4,.slice y5 Xo.ents.length y6,.slice y7 Xo.labels.length y8] 28):=setRow_heap _ _ _ _ _ _ V5.out
  have hX7 : VW (we (lo (w.heap.size + 4)) (w5.setRow (w.heap.size + 3) #[.int .i64 Xo.kind,.int .i64 Xo.num,.string Xo.text,.slice y1 Xo.kids.length y2,.slice y3 Xo.keys.length y4,.slice y5 Xo.ents.length y6,.slice y7 Xo.labels.length y8])) (.agg #[.int .i64 Xo.kind,.int .i64 Xo.num,.string Xo.text,.slice y1 Xo.kids.length y2,.slice y3 Xo.keys.length y4,.slice y5 Xo.ents.length y6,.slice y7 Xo.labels.length y8]) Xo:=HX.out.below (by rw [t0j];exact t4e (by simp [lo]) _)
  have HX7:=zH hX7
  have HV7:=zH hV7
  have hk7 : ∀ k,k < (w.heap.size + 4) → k ≠ S.b → k ≠ (w.heap.size + 3) → (w5.setRow (w.heap.size + 3) #[.int .i64 Xo.kind,.int .i64 Xo.num,.string Xo.text,.slice y1 Xo.kids.length y2,.slice y3 Xo.keys.length y4,.slice y5 Xo.ents.length y6,.slice y7 Xo.labels.length y8]).heap[k]? = w4.heap[k]?:=fun k h1 h2 h3=>(setRow_other _ _ _ _ h3).trans (HS5.out.block (by omega) h2)
  have A7:=zH ((hk7 w.heap.size (by omega) (by omega) (by omega)).trans HA4.out)
  have B7:=zH ((hk7 (w.heap.size + 2) (by omega) (by omega) (by omega)).trans HB4.out)
  have O7:=zH ((hk7 (w.heap.size + 1) (by omega) (by omega) (by omega)).trans HO4.out)
  have H7:=zH (H5.out.row (bx:=(w.heap.size + 3)) (by omega) Hn3.out #[.int .i64 Xo.kind,.int .i64 Xo.num,.string Xo.text,.slice y1 Xo.kids.length y2,.slice y3 Xo.keys.length y4,.slice y5 Xo.ents.length y6,.slice y7 Xo.labels.length y8])
  clear hV7 hX7 hk7 YK Hab q0 t0 t1 n4 hex5 hex6 n0 n1 n2 n3 n5 n6 n7
  generalize w5.setRow (w.heap.size + 3) #[.int .i64 Xo.kind,.int .i64 Xo.num,.string Xo.text,.slice y1 Xo.kids.length y2,.slice y3 Xo.keys.length y4,.slice y5 Xo.ents.length y6,.slice y7 Xo.labels.length y8] = w7 at *
  go_wp2
  go_loopw [12] (fun iv wr=>∃ (i : Nat) (X : VV) (x1 : Option Addr) (x2 : Nat) (x3 : Option Addr) (x4 : Nat) (x5 : Option Addr) (x6 : Nat) (x7 : Option Addr) (x8 : Nat),iv = .int .i64 (i : Int) ∧ i ≤ ks.length ∧ wr.heap[(w.heap.size + 3)]? = some (.cells #[.int .i64 X.kind,.int .i64 X.num,.string X.text,.slice x1 X.kids.length x2,.slice x3 X.keys.length x4,.slice x5 X.ents.length x6,.slice x7 X.labels.length x8] 28) ∧ VW (we (lo (w.heap.size + 4)) wr) (.agg #[.int .i64 X.kind,.int .i64 X.num,.string X.text,.slice x1 X.kids.length x2,.slice x3 X.keys.length x4,.slice x5 X.ents.length x6,.slice x7 X.labels.length x8]) X ∧ X.nodes ≤ N ∧ X.labels.length ≤ Lb + i ∧ wr.heap[w.heap.size]? = some (.cells #[.slice (some ⟨a,o,none⟩) T.nodes.length cT,.int .i64 T.root] 31) ∧ wr.heap[(w.heap.size + 2)]? = some (.cells #[.int .i64 17,.int .i64 lo_,.int .i64 hi_,.string tx,.slice (some ⟨ak,ok,none⟩) ks.length c1,.slice p2 fs.length c2,.int .i64 r0,.int .i64 r1] 48) ∧ wr.heap[(w.heap.size + 1)]? = some (.cells #[.int .i64 0,.int .i64 0,.string ⟨#[]⟩,.slice none 0 0,.slice none 0 0,.slice none 0 0,.slice none 0 0] 28) ∧ SR S w wr) (fun iv _=>((ks.length : Int) - intOf iv).toNat)
  case atStart=>exact ⟨0,Xo,y1,y2,y3,y4,y5,y6,y7,y8,rfl,by omega,HV7.out,HX7.out,Hq.out.1,by have:=Hq.out.2;omega,A7.out,B7.out,O7.out,H7.out⟩
  case round =>
    clear HV7 HX7 A7 B7 O7 H7 V5 HX Hq
    obtain ⟨i,X,x1,x2,x3,x4,x5,x6,x7,x8,rfl,hi,hVr,hXr,hXn,hXl,hAr,hBr,hOr,hsr⟩:=hrel
    have HVr:=zH hVr;have HXr:=zH hXr;have HXn:=zH hXn;have HXl:=zH hXl;have HAr:=zH hAr;have HBr:=zH hBr;have HOr:=zH hOr;have Hsr:=zH hsr
    have hsz2 : (w.heap.size + 4) ≤ wr.heap.size:=t0a hVr
    obtain ⟨⟨f0,f1,f2,f3⟩,f4,f5,f6⟩:=t0f hVr
    obtain ⟨⟨n0,n1,n2,n3⟩,n4,n5,n6,n7⟩:=t0y hBr
    obtain ⟨t0,t1⟩:=t0k hAr
    clear hVr hXr hXn hXl hAr hBr hOr hsr
    obtain ⟨wq,hwq⟩ : ∃ wq : World,wq = wr:=⟨_,rfl⟩
    subst hwq
    by_cases hlt : i < ks.length
    · have d9 : decide (i < ks.length) = true:=by simp [hlt]
      obtain ⟨ak2,ok2,ek,hab2,hal3,hcell⟩:=t4k HI0.out hlt
      injection ek with ek
      injection ek with ek1 ek2
      subst ek1 ek2
      obtain ⟨hk0,hk1⟩:=Hks.out _ (List.getElem_mem hlt)
      have q0:=hcell _ Hsr.out
      have HKC:=zH hcell
      have HAB2:=zH hab2
      clear hcell hab2
      generalize ks[i] = kj at *
      obtain ⟨j,rfl⟩ : ∃ j : Nat,kj = (j : Int):=⟨kj.toNat,by omega⟩
      have hj : j < T.nodes.length:=by omega
      have dj : decide (j < T.nodes.length) = true:=by simp [hj]
      have HNCL:=zH (fun (w' : World) (hs : SR S w w')=>tbj HT0.out hj hs)
      obtain ⟨z0,z3⟩:=tbj HT0.out hj Hsr.out
      clear z3
      generalize T.nodes[j] = nj at *
      go_upto_region 43 with fail
      by_cases hk19 : nj.kind = 19
      rotate_left
      · have d19 : (nj.kind == 19) = false:=by simp [hk19]
        clear hk19
        go_wp2_with (first
        | (with_reducible refine rg ?_)
        | (with_reducible refine fo ?_))
        exact ⟨⟨i + 1,X,x1,x2,x3,x4,x5,x6,x7,x8,by first | rfl | (congr 1),by omega,HVr.out,HXr.out.below (Below.refl _ _).drew,HXn.out,by have:=HXl.out;omega,HAr.out,HBr.out,HOr.out,Hsr.out.drew⟩,by simp [intOf];omega⟩
      · have d19 : (nj.kind == 19) = true:=by simp [hk19]
        clear hk19
        go_upto_region 44 with (first
        | (with_reducible refine rg ?_)
        | (with_reducible refine fo ?_))
        have HSL:=zH (tji HXr.out)
        have HloS:=zH (show lo (w.heap.size + 4) S.b = true by simp [lo];omega)
        have HloV:=zH (show lo (w.heap.size + 4) (w.heap.size + 3) = true by simp [lo])
        have Hsrc:=zH Hsr.out.src
        have Hne:=zH (show ∀ k,w.heap.size ≤ k → k ≠ S.b from fun k hk=>by omega)
        clear f0 f1 f2 f3 f4 f5 f6 n0 n1 n2 n3 n4 n5 n6 n7 t0 t1 z0 q0
        obtain ⟨fr,hfr⟩ : ∃ fr : Value → Value → Value → Value → Value → Value → Value → Value → Value → Value → Value → Value → Value → Value → Value → Value → Value → Act,fr = fun s189 s190 s191 s192 s193 s194 s195 s196 s197 s198 s199 s200 s201 s202 s203 s204 s205=>⟨#[Value.pointer (some { block:=S.b,off:=0 }),Value.agg #[Value.slice (some { block:=a,off:=o }) T.nodes.length cT,Value.int IntKind.i64 T.root],Value.int IntKind.i64 ↑kn,Value.int IntKind.i64 h,undef,Value.pointer (some { block:=w.heap.size,off:=0 }),undef,undef,Value.pointer (some { block:=w.heap.size + 1,off:=0 }),Value.pointer (some { block:=w.heap.size + 2,off:=0 }),Value.pointer (some { block:=w.heap.size + 3,off:=0 }),undef,Value.int IntKind.i64 ↑i,Value.int IntKind.i64 h,Value.bool false,Value.bool false,Value.int IntKind.i64 ↑kn,Value.bool false,Value.bool false,Value.bool false,Value.int IntKind.i64 ↑kn,Value.pointer (some { block:=w.heap.size,off:=0 }),Value.slice (some { block:=a,off:=o }) T.nodes.length cT,Value.int IntKind.i64 ↑T.nodes.length,Value.bool false,Value.bool false,undef,undef,Value.pointer (some { block:=w.heap.size,off:=0 }),Value.slice (some { block:=a,off:=o }) T.nodes.length cT,Value.int IntKind.i64 ↑kn,Value.pointer (some { block:=a,off:=o + kn * 8 }),Value.agg #[Value.int IntKind.i64 17,Value.int IntKind.i64 lo_,Value.int IntKind.i64 hi_,Value.string tx,Value.slice (some { block:=ak,off:=ok }) ks.length c1,Value.slice p2 fs.length c2,Value.int IntKind.i64 r0,Value.int IntKind.i64 r1],Value.agg #[Value.int IntKind.i64 0,Value.int IntKind.i64 0,Value.string { data:=#[] },Value.slice none 0 0,Value.slice none 0 0,Value.slice none 0 0,Value.slice none 0 0],Value.pointer (some { block:=w.heap.size + 2,off:=0 }),Value.int IntKind.i64 17,Value.bool false,Value.bool false,undef,undef,undef,undef,undef,undef,undef,undef,undef,undef,undef,undef,undef,undef,undef,undef,undef,undef,undef,undef,Value.bool false,Value.bool false,undef,undef,undef,Value.bool false,Value.bool false,undef,undef,undef,Value.bool false,Value.bool false,undef,undef,undef,Value.bool false,Value.bool false,undef,undef,undef,Value.bool false,Value.bool false,undef,undef,undef,Value.bool false,Value.bool false,undef,Value.bool false,Value.bool false,Value.bool false,undef,undef,undef,undef,undef,undef,undef,undef,undef,undef,undef,undef,undef,undef,undef,undef,undef,undef,undef,undef,undef,undef,undef,undef,undef,undef,undef,undef,undef,undef,undef,undef,undef,undef,undef,undef,undef,undef,Value.bool false,Value.bool false,undef,undef,undef,undef,undef,Value.bool false,Value.bool false,undef,undef,undef,undef,undef,Value.bool false,Value.bool false,undef,undef,undef,undef,undef,undef,undef,undef,undef,undef,undef,undef,undef,Value.bool true,Value.bool true,Value.pointer (some { block:=S.b,off:=0 }),Value.agg #[Value.slice (some { block:=a,off:=o }) T.nodes.length cT,Value.int IntKind.i64 T.root],Value.pointer (some { block:=w.heap.size + 2,off:=4 }),Value.slice (some { block:=ak,off:=ok }) ks.length c1,Value.pointer (some { block:=S.b,off:=0 }),Value.pointer (some { block:=w.heap.size + 2,off:=4 }),Value.slice (some { block:=ak,off:=ok }) ks.length c1,Value.int IntKind.i64 ↑ks.length,Value.int IntKind.i64 ↑m,Value.pointer (some { block:=ak,off:=ok + m }),Value.int IntKind.i64 kj,Value.int IntKind.i64 h,Value.agg #[Value.int IntKind.i64 Xo.kind,Value.int IntKind.i64 Xo.num,Value.string Xo.text,Value.slice y1 Xo.kids.length y2,Value.slice y3 Xo.keys.length y4,Value.slice y5 Xo.ents.length y6,Value.slice y7 Xo.labels.length y8],Value.int IntKind.i64 ↑i,Value.pointer (some { block:=w.heap.size + 2,off:=4 }),Value.slice (some { block:=ak,off:=ok }) ks.length c1,Value.int IntKind.i64 ↑ks.length,Value.bool true,u176,u177,Value.pointer (some { block:=w.heap.size,off:=0 }),Value.slice (some { block:=a,off:=o }) T.nodes.length cT,Value.pointer (some { block:=w.heap.size + 2,off:=4 }),Value.slice (some { block:=ak,off:=ok }) ks.length c1,Value.int IntKind.i64 ↑i,Value.pointer (some { block:=ak,off:=ok + i }),Value.int IntKind.i64 ↑j,Value.pointer (some { block:=a,off:=o + j * 8 }),Value.pointer (some { block:=a,off:=o + j * 8 }),Value.int IntKind.i64 nj.kind,Value.bool true,s189,s190,s191,s192,s193,s194,s195,s196,s197,s198,s199,s200,s201,s202,s203,s204,s205,undef,undef,undef,undef,undef,undef,undef,undef,undef,undef,undef],[]⟩:=⟨_,rfl⟩
        obtain ⟨J,hJd⟩ : ∃ J : (Nat → Prop) → Act → World → Prop,J = fun (D : Nat → Prop) (ac : Act) (w' : World)=>(D 17 → (∀ i,i < 17 → D i) ∧ ∃ (s189 s190 s191 s192 s193 s194 s195 s196 s197 s198 s199 s200 s201 s202 s203 s204 s205 : Value),ac = fr s189 s190 s191 s192 s193 s194 s195 s196 s197 s198 s199 s200 s201 s202 s203 s204 s205 ∧ ∃ (l5 : List ByteArray) (q7 : Option Addr) (q8 : Nat),w'.heap[w.heap.size + 3]? = some (.cells #[.int .i64 X.kind,.int .i64 X.num,.string X.text,.slice x1 X.kids.length x2,.slice x3 X.keys.length x4,.slice x5 X.ents.length x6,.slice q7 l5.length q8] 28) ∧ VW (we (lo (w.heap.size + 4)) w') (.agg #[.int .i64 X.kind,.int .i64 X.num,.string X.text,.slice x1 X.kids.length x2,.slice x3 X.keys.length x4,.slice x5 X.ents.length x6,.slice q7 l5.length q8]) (X.lab l5) ∧ l5.length ≤ X.labels.length + 1 ∧ w'.heap[w.heap.size]? = some (.cells #[.slice (some ⟨a,o,none⟩) T.nodes.length cT,.int .i64 T.root] 31) ∧ w'.heap[(w.heap.size + 2)]? = some (.cells #[.int .i64 17,.int .i64 lo_,.int .i64 hi_,.string tx,.slice (some ⟨ak,ok,none⟩) ks.length c1,.slice p2 fs.length c2,.int .i64 r0,.int .i64 r1] 48) ∧ w'.heap[(w.heap.size + 1)]? = some (.cells #[.int .i64 0,.int .i64 0,.string ⟨#[]⟩,.slice none 0 0,.slice none 0 0,.slice none 0 0,.slice none 0 0] 28) ∧ SR S w w') ∧ (¬ D 17 → ∃ (s189 s190 s191 s192 s193 s194 s195 s196 s197 s198 s199 s200 s201 s202 s203 s204 s205 : Value),ac = fr s189 s190 s191 s192 s193 s194 s195 s196 s197 s198 s199 s200 s201 s202 s203 s204 s205 ∧ Hid (SR S wq w') ∧ Hid (D 0 → s189 = .pointer (some ⟨(w.heap.size + 3),6,none⟩)) ∧ Hid (D 1 → s190 = .slice x7 X.labels.length x8) ∧ Hid (D 2 → D 14 ∨ (∃ xs,w'.ownsRow wq.heap.size 9 1 s191 X.labels.length xs ∧ Ch 1 SC X.labels xs)) ∧ Hid (D 3 → s192 = .pointer (some ⟨w.heap.size,0,none⟩)) ∧ Hid (D 4 → s193 = .slice (some ⟨a,o,none⟩) T.nodes.length cT) ∧ Hid (D 5 → s194 = .pointer (some ⟨(w.heap.size + 2),4,none⟩)) ∧ Hid (D 6 → s195 = .slice (some ⟨ak,ok,none⟩) ks.length c1) ∧ Hid (D 7 → s196 = .int .i64 (i : Int)) ∧ Hid (D 8 → s197 = .pointer (some ⟨ak,ok + i,none⟩)) ∧ Hid (D 9 → s198 = .int .i64 (j : Int)) ∧ Hid (D 10 → s199 = .pointer (some ⟨a,o + j * 8,none⟩)) ∧ Hid (D 11 → s200 = .pointer (some ⟨a,o + j * 8 + 3,none⟩)) ∧ Hid (D 12 → s201 = .string nj.text) ∧ Hid (D 13 → D 14 ∨ (∃ g,s202 = .slice (some ⟨g,0,none⟩) 1 1 ∧ w'.heap[g]? = some (.cells #[.string nj.text] 9))) ∧ Hid (D 14 → SS (we (lo (w.heap.size + 4)) w') s203 (X.labels ++ [nj.text])) ∧ Hid (D 15 → D 14 ∧ ∃ l5,SS (we (lo (w.heap.size + 4)) w') s204 l5 ∧ l5.length ≤ X.labels.length + 1) ∧ Hid (D 16 → s205 = .pointer (some ⟨(w.heap.size + 3),6,none⟩))):=⟨_,rfl⟩
        subst hfr
        have HJ:=zH hJd;clear hJd
        refine Inv.wp_region_inv J (by kernel_rfl) (by decide +kernel) ?_ ?_ ?_
        · rw [HJ.out]
          exact ⟨fun h=>h.elim,fun _=>⟨_,_,_,_,_,_,_,_,_,_,_,_,_,_,_,_,_,rfl,zH (SR.refl Hsrc.out).drew.drew,k0,k0,k0,k0,k0,k0,k0,k0,k0,k0,k0,k0,k0,k0,k0,k0,k0⟩⟩
        · intro i op hi D ac w' hD hA hJ
          rw [HJ.out] at hJ
          have hl : ¬ D 17:=fun hl=>hD (if e : i = 17 then e ▸ hl else (hJ.1 hl).1 i (by have h1:=Nat.lt_of_lt_of_le (List.getElem?_eq_some_iff.1 hi).1 (show _ ≤ 18 by decide +kernel);omega))
          obtain ⟨s189,s190,s191,s192,s193,s194,s195,s196,s197,s198,s199,s200,s201,s202,s203,s204,s205,e0,Hb,F0,F1,F2,F3,F4,F5,F6,F7,F8,F9,F10,F11,F12,F13,F14,F15,F16⟩:=hJ.2 hl
          have HD:=zH hD;have HLL:=zH hl;clear hJ hD hl
          match i,hi,hA,HD with
          | 0,hi,hA,HD =>
            obtain rfl:=Option.some.inj hi;subst e0;clear hi
            clear hA
            go_wp2
            rw [HJ.out]
            exact ⟨fun h=>absurd (h.resolve_right (by decide)) HLL.out,fun _=>⟨_,_,_,_,_,_,_,_,_,_,_,_,_,_,_,_,_,rfl,Hb,zH fun _=>rfl,kp F1,zH fun h=>(((F2.out (h.resolve_right (by decide)))).imp Or.inl fun q=>q),kp F3,kp F4,kp F5,kp F6,kp F7,kp F8,kp F9,kp F10,kp F11,kp F12,zH fun h=>(((F13.out (h.resolve_right (by decide)))).imp Or.inl fun q=>q),kp F14,zH fun h=>⟨Or.inl ((F15.out (h.resolve_right (by decide)))).1,((F15.out (h.resolve_right (by decide)))).2⟩,kp F16⟩⟩
          | 1,hi,hA,HD =>
            obtain rfl:=Option.some.inj hi;subst e0;clear hi
            have d0:=t1d hA 0 (by decide +kernel);clear hA
            obtain rfl:=F0.out d0
            obtain ⟨⟨-,-,-,-⟩,-,-,y6⟩:=t0f (((Hb.out.block (by omega) (by omega)).trans HVr.out : w'.heap[w.heap.size + 3]? = _))
            go_wp2
            rw [HJ.out]
            exact ⟨fun h=>absurd (h.resolve_right (by decide)) HLL.out,fun _=>⟨_,_,_,_,_,_,_,_,_,_,_,_,_,_,_,_,_,rfl,Hb,kr,zH fun _=>rfl,zH fun h=>(((F2.out (h.resolve_right (by decide)))).imp Or.inl fun q=>q),kp F3,kp F4,kp F5,kp F6,kp F7,kp F8,kp F9,kp F10,kp F11,kp F12,zH fun h=>(((F13.out (h.resolve_right (by decide)))).imp Or.inl fun q=>q),kp F14,zH fun h=>⟨Or.inl ((F15.out (h.resolve_right (by decide)))).1,((F15.out (h.resolve_right (by decide)))).2⟩,kp F16⟩⟩
          | 2,hi,hA,HD =>
            obtain rfl:=Option.some.inj hi;subst e0;clear hi
            have d1:=t1d hA 1 (by decide +kernel);clear hA
            obtain rfl:=F1.out d1
            obtain ⟨xs,hrc,hch⟩:=((HSL.out.below (by rw [t0j];exact Hb.out.we HloS.out)).sub (t3q _ _)).ch
            have Hrc:=zH hrc;have Hch:=zH hch
            clear hrc hch
            go_wp2_with (at_builtin;go_loud (refine t0x rfl (.const (.slice none 0 0)) (.tmp 190) 26 rfl 9 (by kernel_rfl) t3h rfl (by decide) (by decide) wq.heap.size w' x7 0 X.labels.length x8 [] xs Hb.out.size (.slice none 0 0) rfl rfl (World.ownsRow_nil _ _ _ _) Hrc.out (Hch.out.cells fun _ _=>SC.one) (by have:=HXl.out;omega) ?_);intro v3 w3 ho3 hf3;have HB:=zH (hf3.below (Nat.le_refl _) (by simp) (fun g hg=>by simp [Value.ownBlock] at hg));rw [Nat.zero_add,List.nil_append] at ho3;have Ho3:=zH ho3;clear ho3 hf3)
            have HS:=zH ((SR.refl Hb.out.src).step HB.out)
            have HW:=zH (show Below (we (lo (w.heap.size + 4)) w').heap.size (we (lo (w.heap.size + 4)) w') (we (lo (w.heap.size + 4)) w3) by rw [t0j];exact t1l HB.out)
            rw [HJ.out]
            exact ⟨fun h=>absurd (h.resolve_right (by decide)) HLL.out,fun _=>⟨_,_,_,_,_,_,_,_,_,_,_,_,_,_,_,_,_,rfl,zH (Hb.out.trans HS.out),kp F0,kr,zH fun _=>.inr ⟨xs,Ho3.out,Hch.out⟩,kp F3,kp F4,kp F5,kp F6,kp F7,kp F8,kp F9,kp F10,kp F11,kp F12,zH fun h=>(((F13.out (h.resolve_right (by decide)))).imp Or.inl fun q=>q.imp fun _ k=>⟨k.1,(HB.out.block _ (t0a k.2)).trans k.2⟩),zH fun h=>((F14.out (h.resolve_right (by decide)))).below' HW.out,zH fun h=>⟨Or.inl ((F15.out (h.resolve_right (by decide)))).1,(by obtain ⟨-,l5,k1,k2⟩:=(F15.out (h.resolve_right (by decide)));exact ⟨l5,k1.below' HW.out,k2⟩)⟩,kp F16⟩⟩
          | 3,hi,hA,HD =>
            obtain rfl:=Option.some.inj hi;subst e0;clear hi
            clear hA
            go_wp2
            rw [HJ.out]
            exact ⟨fun h=>absurd (h.resolve_right (by decide)) HLL.out,fun _=>⟨_,_,_,_,_,_,_,_,_,_,_,_,_,_,_,_,_,rfl,Hb,kp F0,kp F1,zH fun h=>(((F2.out (h.resolve_right (by decide)))).imp Or.inl fun q=>q),zH fun _=>rfl,kp F4,kp F5,kp F6,kp F7,kp F8,kp F9,kp F10,kp F11,kp F12,zH fun h=>(((F13.out (h.resolve_right (by decide)))).imp Or.inl fun q=>q),kp F14,zH fun h=>⟨Or.inl ((F15.out (h.resolve_right (by decide)))).1,((F15.out (h.resolve_right (by decide)))).2⟩,kp F16⟩⟩
          | 4,hi,hA,HD =>
            obtain rfl:=Option.some.inj hi;subst e0;clear hi
            have d3:=t1d hA 3 (by decide +kernel);clear hA
            obtain rfl:=F3.out d3
            obtain ⟨y0,-⟩:=t0k (((Hb.out.block (by omega) (by omega)).trans HAr.out : w'.heap[w.heap.size]? = _))
            go_wp2
            rw [HJ.out]
            exact ⟨fun h=>absurd (h.resolve_right (by decide)) HLL.out,fun _=>⟨_,_,_,_,_,_,_,_,_,_,_,_,_,_,_,_,_,rfl,Hb,kp F0,kp F1,zH fun h=>(((F2.out (h.resolve_right (by decide)))).imp Or.inl fun q=>q),kr,zH fun _=>rfl,kp F5,kp F6,kp F7,kp F8,kp F9,kp F10,kp F11,kp F12,zH fun h=>(((F13.out (h.resolve_right (by decide)))).imp Or.inl fun q=>q),kp F14,zH fun h=>⟨Or.inl ((F15.out (h.resolve_right (by decide)))).1,((F15.out (h.resolve_right (by decide)))).2⟩,kp F16⟩⟩
          | 5,hi,hA,HD =>
            obtain rfl:=Option.some.inj hi;subst e0;clear hi
            clear hA
            go_wp2
            rw [HJ.out]
            exact ⟨fun h=>absurd (h.resolve_right (by decide)) HLL.out,fun _=>⟨_,_,_,_,_,_,_,_,_,_,_,_,_,_,_,_,_,rfl,Hb,kp F0,kp F1,zH fun h=>(((F2.out (h.resolve_right (by decide)))).imp Or.inl fun q=>q),kp F3,kp F4,zH fun _=>rfl,kp F6,kp F7,kp F8,kp F9,kp F10,kp F11,kp F12,zH fun h=>(((F13.out (h.resolve_right (by decide)))).imp Or.inl fun q=>q),kp F14,zH fun h=>⟨Or.inl ((F15.out (h.resolve_right (by decide)))).1,((F15.out (h.resolve_right (by decide)))).2⟩,kp F16⟩⟩
          | 6,hi,hA,HD =>
            obtain rfl:=Option.some.inj hi;subst e0;clear hi
            have d5:=t1d hA 5 (by decide +kernel);clear hA
            obtain rfl:=F5.out d5
            obtain ⟨⟨-,-,-,-⟩,y4,-,-,-⟩:=t0y (((Hb.out.block (by omega) (by omega)).trans HBr.out : w'.heap[w.heap.size + 2]? = _))
            go_wp2
            rw [HJ.out]
            exact ⟨fun h=>absurd (h.resolve_right (by decide)) HLL.out,fun _=>⟨_,_,_,_,_,_,_,_,_,_,_,_,_,_,_,_,_,rfl,Hb,kp F0,kp F1,zH fun h=>(((F2.out (h.resolve_right (by decide)))).imp Or.inl fun q=>q),kp F3,kp F4,kr,zH fun _=>rfl,kp F7,kp F8,kp F9,kp F10,kp F11,kp F12,zH fun h=>(((F13.out (h.resolve_right (by decide)))).imp Or.inl fun q=>q),kp F14,zH fun h=>⟨Or.inl ((F15.out (h.resolve_right (by decide)))).1,((F15.out (h.resolve_right (by decide)))).2⟩,kp F16⟩⟩
          | 7,hi,hA,HD =>
            obtain rfl:=Option.some.inj hi;subst e0;clear hi
            clear hA
            go_wp2
            rw [HJ.out]
            exact ⟨fun h=>absurd (h.resolve_right (by decide)) HLL.out,fun _=>⟨_,_,_,_,_,_,_,_,_,_,_,_,_,_,_,_,_,rfl,Hb,kp F0,kp F1,zH fun h=>(((F2.out (h.resolve_right (by decide)))).imp Or.inl fun q=>q),kp F3,kp F4,kp F5,kp F6,zH fun _=>rfl,kp F8,kp F9,kp F10,kp F11,kp F12,zH fun h=>(((F13.out (h.resolve_right (by decide)))).imp Or.inl fun q=>q),kp F14,zH fun h=>⟨Or.inl ((F15.out (h.resolve_right (by decide)))).1,((F15.out (h.resolve_right (by decide)))).2⟩,kp F16⟩⟩
          | 8,hi,hA,HD =>
            obtain rfl:=Option.some.inj hi;subst e0;clear hi
            have d6:=t1d hA 6 (by decide +kernel);have d7:=t1d hA 7 (by decide +kernel);clear hA
            obtain rfl:=F6.out d6
            obtain rfl:=F7.out d7
            go_wp2
            rw [HJ.out]
            exact ⟨fun h=>absurd (h.resolve_right (by decide)) HLL.out,fun _=>⟨_,_,_,_,_,_,_,_,_,_,_,_,_,_,_,_,_,rfl,Hb,kp F0,kp F1,zH fun h=>(((F2.out (h.resolve_right (by decide)))).imp Or.inl fun q=>q),kp F3,kp F4,kp F5,kr,kr,zH fun _=>rfl,kp F9,kp F10,kp F11,kp F12,zH fun h=>(((F13.out (h.resolve_right (by decide)))).imp Or.inl fun q=>q),kp F14,zH fun h=>⟨Or.inl ((F15.out (h.resolve_right (by decide)))).1,((F15.out (h.resolve_right (by decide)))).2⟩,kp F16⟩⟩
          | 9,hi,hA,HD =>
            obtain rfl:=Option.some.inj hi;subst e0;clear hi
            have d8:=t1d hA 8 (by decide +kernel);clear hA
            obtain rfl:=F8.out d8
            have yk:=HKC.out _ (Hsr.out.trans Hb.out)
            go_wp2
            rw [HJ.out]
            exact ⟨fun h=>absurd (h.resolve_right (by decide)) HLL.out,fun _=>⟨_,_,_,_,_,_,_,_,_,_,_,_,_,_,_,_,_,rfl,Hb,kp F0,kp F1,zH fun h=>(((F2.out (h.resolve_right (by decide)))).imp Or.inl fun q=>q),kp F3,kp F4,kp F5,kp F6,kp F7,kr,zH fun _=>rfl,kp F10,kp F11,kp F12,zH fun h=>(((F13.out (h.resolve_right (by decide)))).imp Or.inl fun q=>q),kp F14,zH fun h=>⟨Or.inl ((F15.out (h.resolve_right (by decide)))).1,((F15.out (h.resolve_right (by decide)))).2⟩,kp F16⟩⟩
          | 10,hi,hA,HD =>
            obtain rfl:=Option.some.inj hi;subst e0;clear hi
            have d4:=t1d hA 4 (by decide +kernel);have d9:=t1d hA 9 (by decide +kernel);clear hA
            obtain rfl:=F4.out d4
            obtain rfl:=F9.out d9
            go_wp2
            rw [HJ.out]
            exact ⟨fun h=>absurd (h.resolve_right (by decide)) HLL.out,fun _=>⟨_,_,_,_,_,_,_,_,_,_,_,_,_,_,_,_,_,rfl,Hb,kp F0,kp F1,zH fun h=>(((F2.out (h.resolve_right (by decide)))).imp Or.inl fun q=>q),kp F3,kr,kp F5,kp F6,kp F7,kp F8,kr,zH fun _=>rfl,kp F11,kp F12,zH fun h=>(((F13.out (h.resolve_right (by decide)))).imp Or.inl fun q=>q),kp F14,zH fun h=>⟨Or.inl ((F15.out (h.resolve_right (by decide)))).1,((F15.out (h.resolve_right (by decide)))).2⟩,kp F16⟩⟩
          | 11,hi,hA,HD =>
            obtain rfl:=Option.some.inj hi;subst e0;clear hi
            have d10:=t1d hA 10 (by decide +kernel);clear hA
            obtain rfl:=F10.out d10
            go_wp2
            rw [HJ.out]
            exact ⟨fun h=>absurd (h.resolve_right (by decide)) HLL.out,fun _=>⟨_,_,_,_,_,_,_,_,_,_,_,_,_,_,_,_,_,rfl,Hb,kp F0,kp F1,zH fun h=>(((F2.out (h.resolve_right (by decide)))).imp Or.inl fun q=>q),kp F3,kp F4,kp F5,kp F6,kp F7,kp F8,kp F9,kr,zH fun _=>rfl,kp F12,zH fun h=>(((F13.out (h.resolve_right (by decide)))).imp Or.inl fun q=>q),kp F14,zH fun h=>⟨Or.inl ((F15.out (h.resolve_right (by decide)))).1,((F15.out (h.resolve_right (by decide)))).2⟩,kp F16⟩⟩
          | 12,hi,hA,HD =>
            obtain rfl:=Option.some.inj hi;subst e0;clear hi
            have d11:=t1d hA 11 (by decide +kernel);clear hA
            obtain rfl:=F11.out d11
            obtain ⟨-,y3⟩:=HNCL.out _ (Hsr.out.trans Hb.out)
            go_wp2
            rw [HJ.out]
            exact ⟨fun h=>absurd (h.resolve_right (by decide)) HLL.out,fun _=>⟨_,_,_,_,_,_,_,_,_,_,_,_,_,_,_,_,_,rfl,Hb,kp F0,kp F1,zH fun h=>(((F2.out (h.resolve_right (by decide)))).imp Or.inl fun q=>q),kp F3,kp F4,kp F5,kp F6,kp F7,kp F8,kp F9,kp F10,kr,zH fun _=>rfl,zH fun h=>(((F13.out (h.resolve_right (by decide)))).imp Or.inl fun q=>q),kp F14,zH fun h=>⟨Or.inl ((F15.out (h.resolve_right (by decide)))).1,((F15.out (h.resolve_right (by decide)))).2⟩,kp F16⟩⟩
          | 13,hi,hA,HD =>
            obtain rfl:=Option.some.inj hi;subst e0;clear hi
            have d12:=t1d hA 12 (by decide +kernel);clear hA
            obtain rfl:=F12.out d12
            go_wp2
            have HB:=zH ((Below.refl w'.heap.size w').alloc (Nat.le_refl _) (.cells #[.string nj.text] 9))
            have HS:=zH ((SR.refl Hb.out.src).step HB.out)
            have HW:=zH (show Below (we (lo (w.heap.size + 4)) w').heap.size (we (lo (w.heap.size + 4)) w') (we (lo (w.heap.size + 4)) (w'.alloc (.cells #[.string nj.text] 9))) by rw [t0j];exact t1l HB.out)
            rw [HJ.out]
            exact ⟨fun h=>absurd (h.resolve_right (by decide)) HLL.out,fun _=>⟨_,_,_,_,_,_,_,_,_,_,_,_,_,_,_,_,_,rfl,zH (Hb.out.trans HS.out),kp F0,kp F1,zH fun h=>(((F2.out (h.resolve_right (by decide)))).imp Or.inl fun q=>q.imp fun _ k=>⟨t0d k.1 HB.out (Nat.le_refl _),k.2⟩),kp F3,kp F4,kp F5,kp F6,kp F7,kp F8,kp F9,kp F10,kp F11,kr,zH fun _=>.inr ⟨_,rfl,heap_alloc_new _ _⟩,zH fun h=>((F14.out (h.resolve_right (by decide)))).below' HW.out,zH fun h=>⟨Or.inl ((F15.out (h.resolve_right (by decide)))).1,(by obtain ⟨-,l5,k1,k2⟩:=(F15.out (h.resolve_right (by decide)));exact ⟨l5,k1.below' HW.out,k2⟩)⟩,kp F16⟩⟩
          | 14,hi,hA,HD =>
            obtain rfl:=Option.some.inj hi;subst e0;clear hi
            have d2:=t1d hA 2 (by decide +kernel);have d13:=t1d hA 13 (by decide +kernel);clear hA
            obtain ⟨xs,hox,hcx⟩:=(F2.out d2).resolve_left HD.out
            obtain ⟨g,rfl,hg⟩:=(F13.out d13).resolve_left HD.out
            have Hox:=zH hox;have Hcx:=zH hcx;have Hg:=zH hg
            clear hox hcx hg
            go_wp2_with (at_builtin;go_loud (refine t0n rfl (.tmp 191) (.tmp 202) 26 rfl 9 (by kernel_rfl) t3h rfl (by decide) (by decide) wq.heap.size w' g [.string nj.text] Hg.out Hb.out.size rfl (by intro u hu;simp at hu;subst hu;rfl) s191 X.labels.length xs rfl Hox.out (by have:=HXl.out;omega) rfl ?_);intro v4 w4' ho4 hf4;have HB:=zH (hf4.below Hb.out.size (by simp) (fun g hg=>(Hox.out.lt g hg).1));have Ho4:=zH ho4;clear ho4 hf4)
            have HSS:=zH (t1o (l:=X.labels ++ [nj.text]) (t1q (E:=lo (w.heap.size + 4)) (by rw [List.length_append];exact Ho4.out) ((t1g _).mono hsz2)) (Hcx.out.append (Ch.single (P:=SC) (x:=nj.text) (cs:=[.string nj.text]) rfl rfl)) (by have:=HXl.out;simp;omega))
            rw [HJ.out]
            exact ⟨fun h=>absurd (h.resolve_right (by decide)) HLL.out,fun _=>⟨_,_,_,_,_,_,_,_,_,_,_,_,_,_,_,_,_,rfl,zH (Hb.out.app HB.out),kp F0,kp F1,zH fun h=>Or.inl (Or.inr rfl),kp F3,kp F4,kp F5,kp F6,kp F7,kp F8,kp F9,kp F10,kp F11,kp F12,zH fun h=>Or.inl (Or.inr rfl),zH fun _=>HSS.out,zH fun h=>absurd ((F15.out (h.resolve_right (by decide)))).1 HD.out,kp F16⟩⟩
          | 15,hi,hA,HD =>
            obtain rfl:=Option.some.inj hi;subst e0;clear hi
            have d14:=t1d hA 14 (by decide +kernel);clear hA
            have HY:=zH (F14.out d14)
            go_wp2_with (go_at_call 49;refine (t8n (lo (w.heap.size + 4)) (X.labels ++ [nj.text]) w' _ ((t1g _).mono (Nat.le_trans hsz2 Hb.out.size)) HY.out (by have:=HXl.out;simp;omega)).mono ?_;rintro e w3 ⟨v3,l3,rfl,hl3,hn3,hb3⟩;have Hl3:=zH hl3;have Hn3:=zH hn3;have HB:=zH hb3;clear hl3 hn3 hb3)
            have HS:=zH ((SR.refl Hb.out.src).step HB.out)
            have HW:=zH (show Below (we (lo (w.heap.size + 4)) w').heap.size (we (lo (w.heap.size + 4)) w') (we (lo (w.heap.size + 4)) w3) by rw [t0j];exact t1l HB.out)
            rw [HJ.out]
            exact ⟨fun h=>absurd (h.resolve_right (by decide)) HLL.out,fun _=>⟨_,_,_,_,_,_,_,_,_,_,_,_,_,_,_,_,_,rfl,zH (Hb.out.trans HS.out),kp F0,kp F1,zH fun h=>(((F2.out (h.resolve_right (by decide)))).imp Or.inl fun q=>q.imp fun _ k=>⟨t0d k.1 HB.out (Nat.le_refl _),k.2⟩),kp F3,kp F4,kp F5,kp F6,kp F7,kp F8,kp F9,kp F10,kp F11,kp F12,zH fun h=>(((F13.out (h.resolve_right (by decide)))).imp Or.inl fun q=>q.imp fun _ k=>⟨k.1,(HB.out.block _ (t0a k.2)).trans k.2⟩),zH fun h=>((F14.out (h.resolve_right (by decide)))).below' HW.out,zH fun _=>⟨Or.inl d14,l3,Hl3.out,by have:=Hn3.out;simpa using this⟩,kp F16⟩⟩
          | 16,hi,hA,HD =>
            obtain rfl:=Option.some.inj hi;subst e0;clear hi
            clear hA
            go_wp2
            rw [HJ.out]
            exact ⟨fun h=>absurd (h.resolve_right (by decide)) HLL.out,fun _=>⟨_,_,_,_,_,_,_,_,_,_,_,_,_,_,_,_,_,rfl,Hb,kp F0,kp F1,zH fun h=>(((F2.out (h.resolve_right (by decide)))).imp Or.inl fun q=>q),kp F3,kp F4,kp F5,kp F6,kp F7,kp F8,kp F9,kp F10,kp F11,kp F12,zH fun h=>(((F13.out (h.resolve_right (by decide)))).imp Or.inl fun q=>q),kp F14,zH fun h=>⟨Or.inl ((F15.out (h.resolve_right (by decide)))).1,((F15.out (h.resolve_right (by decide)))).2⟩,zH fun _=>rfl⟩⟩
          | 17,hi,hA,HD =>
            obtain rfl:=Option.some.inj hi;subst e0;clear hi
            have dd:=t9m hA (n:=17) (by decide +kernel)
            have d15:=dd 15 (by decide);have d16:=dd 16 (by decide);clear hA
            obtain ⟨-,l5,hl5,hn5⟩:=F15.out d15
            obtain rfl:=F16.out d16
            obtain ⟨p9,c9,rfl,-⟩:=id hl5
            have Hl5:=zH hl5;have Hn5:=zH hn5
            clear hl5 hn5
            have hVw : w'.heap[w.heap.size + 3]? = _:=(Hb.out.block (by omega) (by omega)).trans HVr.out
            have HVw:=zH hVw
            have y6 : w'.cell? ⟨w.heap.size + 3,6,none⟩ = some (.slice x7 X.labels.length x8):=(by simp [World.cell?,hVw])
            have y7 : w'.frozen? ⟨w.heap.size + 3,6,none⟩ = false:=(by simp [World.frozen?,hVw])
            clear hVw
            go_wp2
            have HU : Upd (w.heap.size + 3) (.cells #[.int .i64 X.kind,.int .i64 X.num,.string X.text,.slice x1 X.kids.length x2,.slice x3 X.keys.length x4,.slice x5 X.ents.length x6,.slice p9 l5.length c9] 28) w' (w'.setCell ⟨w.heap.size + 3,6,none⟩ (.slice p9 l5.length c9)):=Upd.cast (Upd.set (i:=6) (v:=.slice p9 l5.length c9) (Upd.refl HVw.out)) rfl
            obtain ⟨dx,hvx⟩:=vs_of HXr.out
            have hvx:=(hvx.below (by rw [t0j];exact Hb.out.we HloS.out)).below (by rw [t0j];exact t1n HU HloV.out)
            have hlx:=Hl5.out.below' (by rw [t0j];exact t1n HU HloV.out)
            have HF1:=zH (t7s hvx hlx)
            have hoth:=HU.other
            have HF2:=zH (((Hsr.out.trans Hb.out).app (HU.below (B:=w.heap.size) (by omega))))
            have HFA:=zH ((hoth w.heap.size (by omega)).trans ((Hb.out.block (by omega) (by omega)).trans HAr.out))
            have HFB:=zH ((hoth (w.heap.size + 2) (by omega)).trans ((Hb.out.block (by omega) (by omega)).trans HBr.out))
            have HFO:=zH ((hoth (w.heap.size + 1) (by omega)).trans ((Hb.out.block (by omega) (by omega)).trans HOr.out))
            rw [HJ.out]
            exact ⟨fun _=>⟨fun k hk=>.inl (dd k hk),_,_,_,_,_,_,_,_,_,_,_,_,_,_,_,_,_,rfl,⟨l5,p9,c9,HU.blk,HF1.out,Hn5.out,HFA.out,HFB.out,HFO.out,HF2.out⟩⟩,fun h=>absurd (.inr rfl) h⟩
          | n + 18,hi,hA,HD=>cases hi
        · intro D ac w' hall hJ
          rw [HJ.out] at hJ
          obtain ⟨-,s189,s190,s191,s192,s193,s194,s195,s196,s197,s198,s199,s200,s201,s202,s203,s204,s205,rfl,hfin⟩:=hJ.1 (hall 17 (by decide))
          clear hall hJ
          obtain ⟨l5,q7,q8,k1,k2,k3,k4,k5,k6,k7⟩:=hfin
          have K1:=zH k1;have K2:=zH k2;have K3:=zH k3;have K4:=zH k4;have K5:=zH k5;have K6:=zH k6;have K7:=zH k7
          clear k1 k2 k3 k4 k5 k6 k7
          go_wp2
          exact ⟨⟨i + 1,by omega,by omega,X.lab l5,x1,x2,x3,x4,x5,x6,q7,q8,K1.out,K2.out,by rw [t5g];exact HXn.out,by have:=HXl.out;have:=K3.out;show l5.length ≤ _;omega,K4.out,K5.out,K6.out,K7.out⟩,by simp [intOf];omega⟩
    · have d9 : decide (i < ks.length) = false:=by simp;omega
      obtain ⟨dv,vs⟩:=vs_of HXr.out
      go_wp2_with (first
        | (with_reducible refine wpList_store_row rfl 28 (.tmp 8) (.tmp 206) rfl _ _ rfl rfl _ _ HOr.out (by kernel_rfl) (by kernel_rfl) (by kernel_rfl) ?_))
      refine bodyPost_ret (results_cell_row rfl _ _ (w.heap.size + 1) 28 _ (0,0) _ rfl (setRow_heap _ _ _ _ _ _ HOr.out) rfl rfl (by kernel_rfl)) rfl ?_
      exact ⟨_,X,rfl,t1v HXr.out HEx.out HEl.out _,⟨HXn.out,Nat.le_trans HXl.out (by omega)⟩,Hsr.out.row (by omega) Hb.out _⟩
end Go.Proofs.YtjgldaaofdpcgaaGreat
