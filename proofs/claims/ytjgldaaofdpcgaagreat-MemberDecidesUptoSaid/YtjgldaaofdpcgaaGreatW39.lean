/- Walks and plain facts for the laws of membership, for all values and types that the heap holds (texts A8 A9). -/
import Derived.Test.YtjgldaaofdpcgaaGreatW03
import Derived.Test.YtjgldaaofdpcgaaGreatW38
set_option linter.unusedVariables false
set_option linter.unusedSimpArgs false
namespace Go.Proofs.YtjgldaaofdpcgaaGreat
open Go.RowKit Go.Ident
set_option maxRecDepth 100000
set_option maxHeartbeats 64000000 in
theorem t6o (T : Ty) (tv : Value) (S : SD) (kn : Nat) (h : Int) (n : TN) (h1 : 1 ≤ h) (hh : h ≤ 1000) (hkn : kn < T.nodes.length) (hnode : T.nodes[kn] = n) (hkd : n.kind = 4 ∨ n.kind = 5 ∨ n.kind = 6 ∨ n.kind = 7 ∨ n.kind = 8 ∨ n.kind = 9) (w : World) (hS : SRC S w) (hT : TB S T tv w) : Calls Tryz.prog 40 #[.pointer (some ⟨S.b,0,none⟩),tv,.int .i64 (kn : Int),.int .i64 h] w (GV (fun V=>V.nodes ≤ 1 ∧ V.labels = []) S w):=by
  have hltS:=hS.lt
  obtain ⟨pT,cT,rfl,hR,-⟩:=id hT
  obtain ⟨a,o,cs,rfl,hal,-,hrange,hNC⟩:=hR.all hkn
  rw [hnode] at hNC
  obtain ⟨kd,lo_,hi_,tx,ks,fs,r0,r1⟩:=n
  obtain ⟨p1,c1,p2,c2,rfl,hI,hF⟩:=hNC
  simp only at hI hF hrange
  simp only at hkd
  have Hkd:=zH hkd;clear hkd
  obtain ⟨w2,e9,hA,hC,hb⟩:=t1f w (.cells #[.slice (some ⟨a,o,none⟩) T.nodes.length cT,.int .i64 T.root] 31) (.cells #[.int .i64 0,.int .i64 0,.string ⟨#[]⟩,.slice none 0 0,.slice none 0 0,.slice none 0 0,.slice none 0 0] 28)
  have hs2 : w2.heap.size = w.heap.size + 2:=by rw [← e9];simp
  obtain ⟨w4,e8,hB4,hV4,hb4⟩:=t1f w2 (.cells #[.int .i64 kd,.int .i64 lo_,.int .i64 hi_,.string tx,.slice p1 ks.length c1,.slice p2 fs.length c2,.int .i64 r0,.int .i64 r1] 48) (.cells #[.int .i64 0,.int .i64 0,.string ⟨#[]⟩,.slice none 0 0,.slice none 0 0,.slice none 0 0,.slice none 0 0] 28)
  have hs4 : w4.heap.size = w2.heap.size + 2:=by rw [← e8];simp
  have E8:=zH e8;clear e8
  have H2:=zH ((SR.refl hS).app hb)
  have H4:=zH (H2.out.step hb4)
  have hrg:=hrange _ H2.out.bel
  have a0:=t0l (hrg 0 _ rfl);have a1:=t0l (hrg 1 _ rfl);have a2:=t0l (hrg 2 _ rfl);have a3:=t0l (hrg 3 _ rfl)
  have a4:=t0l (hrg 4 _ rfl);have a5:=t0l (hrg 5 _ rfl);have a6:=t0l (hrg 6 _ rfl);have a7:=t0l (hrg 7 _ rfl)
  simp only [Nat.add_zero] at a0
  have HT:=zH (hT.sr H4.out);have HT0:=zH hT;have HI0:=zH hI
  have HI:=zH (show IS (wo S.b w4) (.slice p1 ks.length c1) ks from hI.below H4.out.bel)
  have HF:=zH (show Rw (wo S.b w4) p2 c2 4 fs FC from hF.below H4.out.bel fun _ _ _ h=>h)
  have hNC : NC (wo S.b w4) ⟨kd,lo_,hi_,tx,ks,fs,r0,r1⟩ [.int .i64 kd,.int .i64 lo_,.int .i64 hi_,.string tx,.slice p1 ks.length c1,.slice p2 fs.length c2,.int .i64 r0,.int .i64 r1]:=⟨p1,c1,p2,c2,rfl,HI.out,HF.out⟩
  have HNC:=zH hNC
  rw [hs2] at hB4 hV4
  have HB4:=zH hB4;have HV4:=zH hV4
  have HA4:=zH ((hb4.block w.heap.size (by omega)).trans hA)
  have HO4:=zH ((hb4.block (w.heap.size + 1) (by omega)).trans hC)
  obtain ⟨g0,g1⟩:=t0k hA
  have Hs4:=zH (show w4.heap.size = (w.heap.size + 4) by omega)
  have Hb:=zH (show (w.heap.size + 1) ≠ S.b by omega)
  have HEx:=zH (show lo (w.heap.size + 4) (w.heap.size + 1) = true by simp [lo])
  have HEl:=zH (show ∀ k,k < w.heap.size → lo (w.heap.size + 4) k = true from fun k hk=>by simp [lo];omega)
  have dk : decide (T.nodes.length ≤ kn) = false:=by simp;omega
  have dk2 : decide (kn < T.nodes.length) = true:=by simp [hkn]
  have dk3 : decide ((kn : Int) < 0) = false:=by simp
  have dh : decide (h ≤ 0) = false:=by simp;omega
  clear hB4 hV4 hA hC hb hb4 hR hrange hrg hI hF hNC hS hT hnode
  go_enter Tryz.func40,Tryz.ntmps40
  go_upto_region 1 with fail
  try rw [e9]
  go_upto_region 5 with fail
  (try have e8:=E8.out)
  try rw [hs2]
  try rw [e8]
  try rw [hs2]
  clear e9 e8 E8 g0 g1 a0 a1 a2 a3 a4 a5 a6 a7 dk dk3 dh hs2 hs4
  obtain ⟨⟨n0,n1,n2,n3⟩,n4,n5,n6,n7⟩:=t0y HB4.out
  rcases Hkd.out with rfl | rfl | rfl | rfl | rfl | rfl
  · go_wp2_with (first
      | (go_at_call 75;refine (t6v tx w4).mono ?_;rintro e w5 ⟨rfl,hb⟩;have H5:=zH (H4.out.step hb);have Z5:=zH ((hb.block _ (t0a HO4.out)).trans HO4.out);clear hb)
      | (with_reducible refine wpList_store_row rfl 28 (.tmp 8) (.tmp 62) rfl _ _ rfl rfl _ _ Z5.out (by kernel_rfl) (by kernel_rfl) (by kernel_rfl) ?_))
    refine bodyPost_ret (results_cell_row rfl _ _ (w.heap.size + 1) 28 _ (0,0) _ rfl (setRow_heap _ _ _ _ _ _ Z5.out) rfl rfl (by kernel_rfl)) rfl ?_
    exact ⟨_,_,rfl,vw0 _ _ _ _,⟨(by show VV.nodes _ ≤ _;simp [VV.nodes,nodesVs,nodesEs]),rfl⟩,H5.out.row (by omega) Hb.out _⟩
  · go_wp2_with (first
      | (go_at_call 72;refine (t8m S w4 H4.out.src).mono ?_;rintro e w5 ⟨s,rfl,hs,hp⟩;have H5:=zH (H4.out.trans hs);have Z5:=zH ((hs.block (t0a HO4.out) Hb.out).trans HO4.out);clear hs)
      | (go_at_call 75;refine (t6v s w5).mono ?_;rintro e w6 ⟨rfl,hb⟩;have H6:=zH (H5.out.step hb);have Z6:=zH ((hb.block _ (t0a Z5.out)).trans Z5.out);clear hb)
      | (with_reducible refine wpList_store_row rfl 28 (.tmp 8) (.tmp 67) rfl _ _ rfl rfl _ _ Z6.out (by kernel_rfl) (by kernel_rfl) (by kernel_rfl) ?_))
    refine bodyPost_ret (results_cell_row rfl _ _ (w.heap.size + 1) 28 _ (0,0) _ rfl (setRow_heap _ _ _ _ _ _ Z6.out) rfl rfl (by kernel_rfl)) rfl ?_
    exact ⟨_,_,rfl,vw0 _ _ _ _,⟨(by show VV.nodes _ ≤ _;simp [VV.nodes,nodesVs,nodesEs]),rfl⟩,H6.out.row (by omega) Hb.out _⟩
  · go_wp2_with (first
      | (go_at_call 22;refine (t6i tx w4).mono ?_;rintro e w5 ⟨rfl,hb⟩;have H5:=zH (H4.out.step hb);have Z5:=zH ((hb.block _ (t0a HO4.out)).trans HO4.out);clear hb)
      | (with_reducible refine wpList_store_row rfl 28 (.tmp 8) (.tmp 72) rfl _ _ rfl rfl _ _ Z5.out (by kernel_rfl) (by kernel_rfl) (by kernel_rfl) ?_))
    refine bodyPost_ret (results_cell_row rfl _ _ (w.heap.size + 1) 28 _ (0,0) _ rfl (setRow_heap _ _ _ _ _ _ Z5.out) rfl rfl (by kernel_rfl)) rfl ?_
    exact ⟨_,_,rfl,vw0 _ _ _ _,⟨(by show VV.nodes _ ≤ _;simp [VV.nodes,nodesVs,nodesEs]),rfl⟩,H5.out.row (by omega) Hb.out _⟩
  · go_wp2_with (first
      | (go_at_call 71;refine (t5n S w4 H4.out.src).mono ?_;rintro e w5 ⟨s,rfl,hs,hp⟩;have H5:=zH (H4.out.trans hs);have Z5:=zH ((hs.block (t0a HO4.out) Hb.out).trans HO4.out);clear hs)
      | (go_at_call 22;refine (t6i s w5).mono ?_;rintro e w6 ⟨rfl,hb⟩;have H6:=zH (H5.out.step hb);have Z6:=zH ((hb.block _ (t0a Z5.out)).trans Z5.out);clear hb)
      | (with_reducible refine wpList_store_row rfl 28 (.tmp 8) (.tmp 77) rfl _ _ rfl rfl _ _ Z6.out (by kernel_rfl) (by kernel_rfl) (by kernel_rfl) ?_))
    refine bodyPost_ret (results_cell_row rfl _ _ (w.heap.size + 1) 28 _ (0,0) _ rfl (setRow_heap _ _ _ _ _ _ Z6.out) rfl rfl (by kernel_rfl)) rfl ?_
    exact ⟨_,_,rfl,vw0 _ _ _ _,⟨(by show VV.nodes _ ≤ _;simp [VV.nodes,nodesVs,nodesEs]),rfl⟩,H6.out.row (by omega) Hb.out _⟩
  · go_wp2_with (first
      | (go_at_call 24;refine (t0z S 2 w4 H4.out.src (by omega)).mono ?_;rintro e w5 ⟨y,rfl,hs,h0,h1,-⟩;have H5:=zH (H4.out.trans hs);have Z5:=zH ((hs.block (t0a HO4.out) Hb.out).trans HO4.out);clear hs)
      | (go_at_call 76;refine (tc9 y w5).mono ?_;rintro e w6 ⟨rfl,hb⟩;have H6:=zH (H5.out.step hb);have Z6:=zH ((hb.block _ (t0a Z5.out)).trans Z5.out);clear hb)
      | (with_reducible refine wpList_store_row rfl 28 (.tmp 8) (.tmp 82) rfl _ _ rfl rfl _ _ Z6.out (by kernel_rfl) (by kernel_rfl) (by kernel_rfl) ?_))
    refine bodyPost_ret (results_cell_row rfl _ _ (w.heap.size + 1) 28 _ (0,0) _ rfl (setRow_heap _ _ _ _ _ _ Z6.out) rfl rfl (by kernel_rfl)) rfl ?_
    exact ⟨_,_,rfl,vw0 _ _ _ _,⟨(by show VV.nodes _ ≤ _;simp [VV.nodes,nodesVs,nodesEs]),rfl⟩,H6.out.row (by omega) Hb.out _⟩
  · go_wp2_with (first
      | (go_at_call 43;refine (t3f w4).mono ?_;rintro e w5 ⟨rfl,hb⟩;have H5:=zH (H4.out.step hb);have Z5:=zH ((hb.block _ (t0a HO4.out)).trans HO4.out);clear hb)
      | (with_reducible refine wpList_store_row rfl 28 (.tmp 8) (.tmp 85) rfl _ _ rfl rfl _ _ Z5.out (by kernel_rfl) (by kernel_rfl) (by kernel_rfl) ?_))
    refine bodyPost_ret (results_cell_row rfl _ _ (w.heap.size + 1) 28 _ (0,0) _ rfl (setRow_heap _ _ _ _ _ _ Z5.out) rfl rfl (by kernel_rfl)) rfl ?_
    exact ⟨_,_,rfl,vw0 _ _ _ _,⟨(by show VV.nodes _ ≤ _;simp [VV.nodes,nodesVs,nodesEs]),rfl⟩,H5.out.row (by omega) Hb.out _⟩
theorem tfy (S : SD) (w : World) (hS : SRC S w) : Calls Tryz.prog 12 #[.pointer (some ⟨S.b,0,none⟩),.int .i64 2] w (GV (fun V=>V.nodes ≤ 100 ∧ V.labels.length ≤ 1000) S w) :=
  ta8 S 2 (10 * 10 ^ 1) (tbc S 2 (10 ^ 1) (by decide) (by decide) (fun _=>tcb S 1 1 (by decide) (by decide)) (fun g=>absurd g (by decide))) w hS
def OwnK (k : Int) : Bool:=decide (k = 3) || decide (k = 4) || decide (k = 5) || decide (k = 6) || decide (k = 7) || decide (k = 8) || decide (k = 9) || decide (k = 10) || decide (k = 12) || decide (k = 13) || decide (k = 14) || decide (k = 16) || decide (k = 17) || decide (k = 19)
set_option maxHeartbeats 64000000 in
theorem tje (T : Ty) (tv : Value) (S : SD) (kn : Nat) (h : Int) (n : TN) (h1 : 1 ≤ h) (hh : h ≤ 1000) (hkn : kn < T.nodes.length) (hnode : T.nodes[kn] = n) (hkd : ¬ OwnK n.kind = true) (w : World) (hS : SRC S w) (hT : TB S T tv w) : Calls Tryz.prog 40 #[.pointer (some ⟨S.b,0,none⟩),tv,.int .i64 (kn : Int),.int .i64 h] w (GV (fun V=>V.nodes ≤ 100 ∧ V.labels.length ≤ 1000) S w):=by
  have hltS:=hS.lt
  obtain ⟨pT,cT,rfl,hR,-⟩:=id hT
  obtain ⟨a,o,cs,rfl,hal,-,hrange,hNC⟩:=hR.all hkn
  rw [hnode] at hNC
  obtain ⟨kd,lo_,hi_,tx,ks,fs,r0,r1⟩:=n
  obtain ⟨p1,c1,p2,c2,rfl,hI,hF⟩:=hNC
  simp only at hI hF hrange
  simp only at hkd
  have d3 : (kd == 3) = false:=by rw [beq_eq_false_iff_ne];intro e;exact hkd (by rw [e];decide)
  have d4 : (kd == 4) = false:=by rw [beq_eq_false_iff_ne];intro e;exact hkd (by rw [e];decide)
  have d5 : (kd == 5) = false:=by rw [beq_eq_false_iff_ne];intro e;exact hkd (by rw [e];decide)
  have d6 : (kd == 6) = false:=by rw [beq_eq_false_iff_ne];intro e;exact hkd (by rw [e];decide)
  have d7 : (kd == 7) = false:=by rw [beq_eq_false_iff_ne];intro e;exact hkd (by rw [e];decide)
  have d8 : (kd == 8) = false:=by rw [beq_eq_false_iff_ne];intro e;exact hkd (by rw [e];decide)
  have d9 : (kd == 9) = false:=by rw [beq_eq_false_iff_ne];intro e;exact hkd (by rw [e];decide)
  have d10 : (kd == 10) = false:=by rw [beq_eq_false_iff_ne];intro e;exact hkd (by rw [e];decide)
  have d12 : (kd == 12) = false:=by rw [beq_eq_false_iff_ne];intro e;exact hkd (by rw [e];decide)
  have d13 : (kd == 13) = false:=by rw [beq_eq_false_iff_ne];intro e;exact hkd (by rw [e];decide)
  have d14 : (kd == 14) = false:=by rw [beq_eq_false_iff_ne];intro e;exact hkd (by rw [e];decide)
  have d16 : (kd == 16) = false:=by rw [beq_eq_false_iff_ne];intro e;exact hkd (by rw [e];decide)
  have d17 : (kd == 17) = false:=by rw [beq_eq_false_iff_ne];intro e;exact hkd (by rw [e];decide)
  have d19 : (kd == 19) = false:=by rw [beq_eq_false_iff_ne];intro e;exact hkd (by rw [e];decide)
  obtain ⟨w2,e9,hA,hC,hb⟩:=t1f w (.cells #[.slice (some ⟨a,o,none⟩) T.nodes.length cT,.int .i64 T.root] 31) (.cells #[.int .i64 0,.int .i64 0,.string ⟨#[]⟩,.slice none 0 0,.slice none 0 0,.slice none 0 0,.slice none 0 0] 28)
  have hs2 : w2.heap.size = w.heap.size + 2:=by rw [← e9];simp
  obtain ⟨w4,e8,hB4,hV4,hb4⟩:=t1f w2 (.cells #[.int .i64 kd,.int .i64 lo_,.int .i64 hi_,.string tx,.slice p1 ks.length c1,.slice p2 fs.length c2,.int .i64 r0,.int .i64 r1] 48) (.cells #[.int .i64 0,.int .i64 0,.string ⟨#[]⟩,.slice none 0 0,.slice none 0 0,.slice none 0 0,.slice none 0 0] 28)
  have hs4 : w4.heap.size = w2.heap.size + 2:=by rw [← e8];simp
  have E8:=zH e8;clear e8
  have H2:=zH ((SR.refl hS).app hb)
  have H4:=zH (H2.out.step hb4)
  have hrg:=hrange _ H2.out.bel
  have a0:=t0l (hrg 0 _ rfl);have a1:=t0l (hrg 1 _ rfl);have a2:=t0l (hrg 2 _ rfl);have a3:=t0l (hrg 3 _ rfl)
  have a4:=t0l (hrg 4 _ rfl);have a5:=t0l (hrg 5 _ rfl);have a6:=t0l (hrg 6 _ rfl);have a7:=t0l (hrg 7 _ rfl)
  simp only [Nat.add_zero] at a0
  have HT:=zH (hT.sr H4.out);have HT0:=zH hT;have HI0:=zH hI
  have HI:=zH (show IS (wo S.b w4) (.slice p1 ks.length c1) ks from hI.below H4.out.bel)
  have HF:=zH (show Rw (wo S.b w4) p2 c2 4 fs FC from hF.below H4.out.bel fun _ _ _ h=>h)
  have hNC : NC (wo S.b w4) ⟨kd,lo_,hi_,tx,ks,fs,r0,r1⟩ [.int .i64 kd,.int .i64 lo_,.int .i64 hi_,.string tx,.slice p1 ks.length c1,.slice p2 fs.length c2,.int .i64 r0,.int .i64 r1]:=⟨p1,c1,p2,c2,rfl,HI.out,HF.out⟩
  have HNC:=zH hNC
  rw [hs2] at hB4 hV4
  have HB4:=zH hB4;have HV4:=zH hV4
  have HA4:=zH ((hb4.block w.heap.size (by omega)).trans hA)
  have HO4:=zH ((hb4.block (w.heap.size + 1) (by omega)).trans hC)
  obtain ⟨g0,g1⟩:=t0k hA
  have Hs4:=zH (show w4.heap.size = (w.heap.size + 4) by omega)
  have Hb:=zH (show (w.heap.size + 1) ≠ S.b by omega)
  have HEx:=zH (show lo (w.heap.size + 4) (w.heap.size + 1) = true by simp [lo])
  have HEl:=zH (show ∀ k,k < w.heap.size → lo (w.heap.size + 4) k = true from fun k hk=>by simp [lo];omega)
  have dk : decide (T.nodes.length ≤ kn) = false:=by simp;omega
  have dk2 : decide (kn < T.nodes.length) = true:=by simp [hkn]
  have dk3 : decide ((kn : Int) < 0) = false:=by simp
  have dh : decide (h ≤ 0) = false:=by simp;omega
  clear hB4 hV4 hA hC hb hb4 hR hrange hrg hI hF hNC hS hT hnode
  go_enter Tryz.func40,Tryz.ntmps40
  go_upto_region 1 with fail
  try rw [e9]
  go_upto_region 5 with fail
  (try have e8:=E8.out)
  try rw [hs2]
  try rw [e8]
  try rw [hs2]
  clear e9 e8 E8 g0 g1 a0 a1 a2 a3 a4 a5 a6 a7 dk dk3 dh hs2 hs4
  obtain ⟨⟨n0,n1,n2,n3⟩,n4,n5,n6,n7⟩:=t0y HB4.out
  go_wp2_with (first
    | (go_at_call 12;refine (tfy S w4 H4.out.src).mono ?_;rintro e w5 ⟨v5,X,rfl,hx,hq,hs⟩;obtain ⟨dv,cs,rfl,hx⟩:=hx;obtain ⟨x1,x2,x3,x4,x5,x6,x7,x8,rfl⟩:=hx.seven;have HX:=zH (show VW (we (lo (w.heap.size + 4)) w5) _ X from (by rw [Hs4.out] at hx;exact ⟨dv,_,rfl,hx⟩));have Hq:=zH hq;have H5:=zH (H4.out.trans hs);have Z5:=zH ((hs.block (t0a HO4.out) Hb.out).trans HO4.out);clear hx hq hs)
    | (with_reducible refine wpList_store_row rfl 28 (.tmp 8) (.tmp 216) rfl _ _ rfl rfl _ _ Z5.out (by kernel_rfl) (by kernel_rfl) (by kernel_rfl) ?_))
  refine bodyPost_ret (results_cell_row rfl _ _ (w.heap.size + 1) 28 _ (0,0) _ rfl (setRow_heap _ _ _ _ _ _ Z5.out) rfl rfl (by kernel_rfl)) rfl ?_
  exact ⟨_,X,rfl,t1v HX.out HEx.out HEl.out _,Hq.out,H5.out.row (by omega) Hb.out _⟩
set_option maxHeartbeats 64000000 in
theorem t7d (T : Ty) (tv : Value) (S : SD) (k h : Int) (hc : h ≤ 0 ∨ k < 0 ∨ (T.nodes.length : Int) ≤ k) (w : World) (hS : SRC S w) (hT : TB S T tv w) : Calls Tryz.prog 40 #[.pointer (some ⟨S.b,0,none⟩),tv,.int .i64 k,.int .i64 h] w (GV (fun V=>V.nodes ≤ 1 ∧ V.labels = []) S w):=by
  have hltS:=hS.lt
  obtain ⟨pT,cT,rfl,-,-⟩:=id hT
  obtain ⟨w2,e9,hA,hC,hb⟩:=t1f w (.cells #[.slice pT T.nodes.length cT,.int .i64 T.root] 31) (.cells #[.int .i64 0,.int .i64 0,.string ⟨#[]⟩,.slice none 0 0,.slice none 0 0,.slice none 0 0,.slice none 0 0] 28)
  have hs2 : w2.heap.size = w.heap.size + 2:=by rw [← e9];simp
  have H2:=zH ((SR.refl hS).app hb)
  have HC:=zH hC
  have Hb:=zH (show (w.heap.size + 1) ≠ S.b by omega)
  have HEx:=zH (show lo (w.heap.size + 2) (w.heap.size + 1) = true by simp [lo])
  have HEl:=zH (show ∀ k,k < w.heap.size → lo (w.heap.size + 2) k = true from fun k hk=>by simp [lo];omega)
  have Hs2:=zH hs2
  obtain ⟨g0,g1⟩:=t0k hA
  clear hA hC hb hS hT hs2
  go_enter Tryz.func40,Tryz.ntmps40
  go_upto_region 1 with fail
  try rw [e9]
  clear e9
  have key : ∀ (P : Prop),(h ≤ 0 → P) → (¬ h ≤ 0 → k < 0 → P) → (¬ h ≤ 0 → ¬ k < 0 → (T.nodes.length : Int) ≤ k → P) → P:=fun P p1 p2 p3=>by
    by_cases c1 : h ≤ 0
    · exact p1 c1
    · by_cases c2 : k < 0
      · exact p2 c1 c2
      · exact p3 c1 c2 (by omega)
  refine key _ (fun c1=>?_) (fun c1 c2=>?_) (fun c1 c2 c3=>?_)
  · have d1 : decide (h ≤ 0) = true:=by simp [c1]
    go_wp2_with (first
      | (go_at_call 41;refine (t2y S w2 H2.out.src).mono ?_;rintro e w5 ⟨v5,X,rfl,hx,hq,hs⟩;obtain ⟨dv,cs,rfl,hx⟩:=hx;obtain ⟨x1,x2,x3,x4,x5,x6,x7,x8,rfl⟩:=hx.seven;have HX:=zH (show VW (we (lo (w.heap.size + 2)) w5) _ X from (by rw [Hs2.out] at hx;exact ⟨dv,_,rfl,hx⟩));have Hq:=zH hq.2;have H5:=zH (H2.out.trans hs);have Z5:=zH ((hs.block (t0a HC.out) Hb.out).trans HC.out);clear hx hq hs)
      | (with_reducible refine wpList_store_row rfl 28 (.tmp 8) (.tmp 27) rfl _ _ rfl rfl _ _ Z5.out (by kernel_rfl) (by kernel_rfl) (by kernel_rfl) ?_))
    refine bodyPost_ret (results_cell_row rfl _ _ (w.heap.size + 1) 28 _ (0,0) _ rfl (setRow_heap _ _ _ _ _ _ Z5.out) rfl rfl (by kernel_rfl)) rfl ?_
    exact ⟨_,X,rfl,t1v HX.out HEx.out HEl.out _,Hq.out,H5.out.row (by omega) Hb.out _⟩
  · have d1 : decide (h ≤ 0) = false:=by simp;omega
    have d2 : decide (k < 0) = true:=by simp [c2]
    go_wp2_with (first
      | (go_at_call 41;refine (t2y S w2 H2.out.src).mono ?_;rintro e w5 ⟨v5,X,rfl,hx,hq,hs⟩;obtain ⟨dv,cs,rfl,hx⟩:=hx;obtain ⟨x1,x2,x3,x4,x5,x6,x7,x8,rfl⟩:=hx.seven;have HX:=zH (show VW (we (lo (w.heap.size + 2)) w5) _ X from (by rw [Hs2.out] at hx;exact ⟨dv,_,rfl,hx⟩));have Hq:=zH hq.2;have H5:=zH (H2.out.trans hs);have Z5:=zH ((hs.block (t0a HC.out) Hb.out).trans HC.out);clear hx hq hs)
      | (with_reducible refine wpList_store_row rfl 28 (.tmp 8) (.tmp 27) rfl _ _ rfl rfl _ _ Z5.out (by kernel_rfl) (by kernel_rfl) (by kernel_rfl) ?_))
    refine bodyPost_ret (results_cell_row rfl _ _ (w.heap.size + 1) 28 _ (0,0) _ rfl (setRow_heap _ _ _ _ _ _ Z5.out) rfl rfl (by kernel_rfl)) rfl ?_
    exact ⟨_,X,rfl,t1v HX.out HEx.out HEl.out _,Hq.out,H5.out.row (by omega) Hb.out _⟩
  · have d1 : decide (h ≤ 0) = false:=by simp;omega
    have d2 : decide (k < 0) = false:=by simp;omega
    have d3 : decide ((T.nodes.length : Int) ≤ k) = true:=by simp [c3]
    go_wp2_with (first
      | (go_at_call 41;refine (t2y S w2 H2.out.src).mono ?_;rintro e w5 ⟨v5,X,rfl,hx,hq,hs⟩;obtain ⟨dv,cs,rfl,hx⟩:=hx;obtain ⟨x1,x2,x3,x4,x5,x6,x7,x8,rfl⟩:=hx.seven;have HX:=zH (show VW (we (lo (w.heap.size + 2)) w5) _ X from (by rw [Hs2.out] at hx;exact ⟨dv,_,rfl,hx⟩));have Hq:=zH hq.2;have H5:=zH (H2.out.trans hs);have Z5:=zH ((hs.block (t0a HC.out) Hb.out).trans HC.out);clear hx hq hs)
      | (with_reducible refine wpList_store_row rfl 28 (.tmp 8) (.tmp 27) rfl _ _ rfl rfl _ _ Z5.out (by kernel_rfl) (by kernel_rfl) (by kernel_rfl) ?_))
    refine bodyPost_ret (results_cell_row rfl _ _ (w.heap.size + 1) 28 _ (0,0) _ rfl (setRow_heap _ _ _ _ _ _ Z5.out) rfl rfl (by kernel_rfl)) rfl ?_
    exact ⟨_,X,rfl,t1v HX.out HEx.out HEl.out _,Hq.out,H5.out.row (by omega) Hb.out _⟩
end Go.Proofs.YtjgldaaofdpcgaaGreat
namespace Go.Proofs.YtjgldaaofdpcgaaGreat
open Go.RowKit Go.Ident
set_option maxRecDepth 100000
set_option maxHeartbeats 64000000 in
theorem ti9 (T : Ty) (tv : Value) (S : SD) (kn : Nat) (h : Int) (n : TN) (h1 : 1 ≤ h) (hh : h ≤ 1000) (hkn : kn < T.nodes.length) (hnode : T.nodes[kn] = n) (hkd : n.kind = 13) (N : Nat) (hN : 1 ≤ N) (hfl : n.fields.length ≤ 3) (hv : ∀ k,NV T tv N S k (h - 1)) (w : World) (hS : SRC S w) (hT : TB S T tv w) : Calls Tryz.prog 40 #[.pointer (some ⟨S.b,0,none⟩),tv,.int .i64 (kn : Int),.int .i64 h] w (GV (fun V=>V.nodes ≤ 1 + 4 * N ∧ V.labels = []) S w):=by
  have hltS:=hS.lt
  obtain ⟨pT,cT,rfl,hR,-⟩:=id hT
  obtain ⟨a,o,cs,rfl,hal,-,hrange,hNC⟩:=hR.all hkn
  rw [hnode] at hNC
  obtain ⟨kd,lo_,hi_,tx,ks,fs,r0,r1⟩:=n
  obtain ⟨p1,c1,p2,c2,rfl,hI,hF⟩:=hNC
  simp only at hI hF hrange
  obtain rfl : kd = 13:=hkd
  obtain ⟨w2,e9,hA,hC,hb⟩:=t1f w (.cells #[.slice (some ⟨a,o,none⟩) T.nodes.length cT,.int .i64 T.root] 31) (.cells #[.int .i64 0,.int .i64 0,.string ⟨#[]⟩,.slice none 0 0,.slice none 0 0,.slice none 0 0,.slice none 0 0] 28)
  have hs2 : w2.heap.size = w.heap.size + 2:=by rw [← e9];simp
  obtain ⟨w4,e8,hB4,hV4,hb4⟩:=t1f w2 (.cells #[.int .i64 13,.int .i64 lo_,.int .i64 hi_,.string tx,.slice p1 ks.length c1,.slice p2 fs.length c2,.int .i64 r0,.int .i64 r1] 48) (.cells #[.int .i64 0,.int .i64 0,.string ⟨#[]⟩,.slice none 0 0,.slice none 0 0,.slice none 0 0,.slice none 0 0] 28)
  have hs4 : w4.heap.size = w2.heap.size + 2:=by rw [← e8];simp
  have E8:=zH e8;clear e8
  have H2:=zH ((SR.refl hS).app hb)
  have H4:=zH (H2.out.step hb4)
  have hrg:=hrange _ H2.out.bel
  have a0:=t0l (hrg 0 _ rfl);have a1:=t0l (hrg 1 _ rfl);have a2:=t0l (hrg 2 _ rfl);have a3:=t0l (hrg 3 _ rfl)
  have a4:=t0l (hrg 4 _ rfl);have a5:=t0l (hrg 5 _ rfl);have a6:=t0l (hrg 6 _ rfl);have a7:=t0l (hrg 7 _ rfl)
  simp only [Nat.add_zero] at a0
  have HT:=zH (hT.sr H4.out)
  have HI:=zH (show IS (wo S.b w4) (.slice p1 ks.length c1) ks from hI.below H4.out.bel)
  have HF:=zH (show Rw (wo S.b w4) p2 c2 4 fs FC from hF.below H4.out.bel fun _ _ _ h=>h)
  have hNC : NC (wo S.b w4) ⟨13,lo_,hi_,tx,ks,fs,r0,r1⟩ [.int .i64 13,.int .i64 lo_,.int .i64 hi_,.string tx,.slice p1 ks.length c1,.slice p2 fs.length c2,.int .i64 r0,.int .i64 r1]:=⟨p1,c1,p2,c2,rfl,HI.out,HF.out⟩
  have HNC:=zH hNC
  rw [hs2] at hB4 hV4
  have HB4:=zH hB4;have HV4:=zH hV4
  have HA4:=zH ((hb4.block w.heap.size (by omega)).trans hA)
  have HO4:=zH ((hb4.block (w.heap.size + 1) (by omega)).trans hC)
  obtain ⟨g0,g1⟩:=t0k hA
  have Hs4:=zH (show w4.heap.size = (w.heap.size + 4) by omega)
  have Hb:=zH (show (w.heap.size + 1) ≠ S.b by omega)
  have HEx:=zH (show lo (w.heap.size + 4) (w.heap.size + 1) = true by simp [lo])
  have HEl:=zH (show ∀ k,k < w.heap.size → lo (w.heap.size + 4) k = true from fun k hk=>by simp [lo];omega)
  have dk : decide (T.nodes.length ≤ kn) = false:=by simp;omega
  have dk2 : decide (kn < T.nodes.length) = true:=by simp [hkn]
  have dk3 : decide ((kn : Int) < 0) = false:=by simp
  have dh : decide (h ≤ 0) = false:=by simp;omega
  clear hB4 hV4 hA hC hb hb4 hR hrange hrg hI hF hNC hS hT hnode
  go_enter Tryz.func40,Tryz.ntmps40
  go_upto_region 1 with fail
  try rw [e9]
  go_upto_region 5 with fail
  (try have e8:=E8.out)
  try rw [hs2]
  try rw [e8]
  try rw [hs2]
  clear e9 e8 E8 g0 g1 a0 a1 a2 a3 a4 a5 a6 a7 dk dk3 dh hs2 hs4
  obtain ⟨⟨n0,n1,n2,n3⟩,n4,n5,n6,n7⟩:=t0y HB4.out
  have Hv:=zH hv
  clear hv
  obtain ⟨t0,t1⟩:=t0k HA4.out
  have hwo : (w.heap.size + 4) ≤ w4.heap.size:=by have:=Hs4.out;omega
  go_wp2_with (first
    | (go_at_call 77;refine (te0 T _ N S h _ _ hN h1 hh hfl Hv.out w4 H4.out.src HT.out HNC.out).mono ?_;rintro e w5 ⟨v5,X,rfl,hx,hq,hs⟩;obtain ⟨dv,cs,rfl,hx⟩:=hx;obtain ⟨x1,x2,x3,x4,x5,x6,x7,x8,rfl⟩:=hx.seven;have HX:=zH (show VW (we (lo (w.heap.size + 4)) w5) _ X from ⟨dv,_,rfl,hx.sub (t1m w5 (show (w.heap.size + 4) ≤ w4.heap.size from hwo))⟩);have Hq:=zH hq;have H5:=zH (H4.out.trans hs);have Z5:=zH ((hs.block (t0a HO4.out) Hb.out).trans HO4.out);clear hx hq hs)
    | (with_reducible refine wpList_store_row rfl 28 (.tmp 8) (.tmp 133) rfl _ _ rfl rfl _ _ Z5.out (by kernel_rfl) (by kernel_rfl) (by kernel_rfl) ?_))
  refine bodyPost_ret (results_cell_row rfl _ _ (w.heap.size + 1) 28 _ (0,0) _ rfl (setRow_heap _ _ _ _ _ _ Z5.out) rfl rfl (by kernel_rfl)) rfl ?_
  exact ⟨_,X,rfl,t1v HX.out HEx.out HEl.out _,Hq.out,H5.out.row (by omega) Hb.out _⟩
set_option maxHeartbeats 64000000 in
theorem tia (T : Ty) (tv : Value) (S : SD) (kn : Nat) (h : Int) (n : TN) (h1 : 1 ≤ h) (hh : h ≤ 1000) (hkn : kn < T.nodes.length) (hnode : T.nodes[kn] = n) (hkd : n.kind = 14) (N : Nat) (hN : 1 ≤ N) (q : Nat) (hkl : n.kids.length = q + 1) (hq2 : q ≤ 2) (hv : ∀ k,NV T tv N S k (h - 1)) (w : World) (hS : SRC S w) (hT : TB S T tv w) : Calls Tryz.prog 40 #[.pointer (some ⟨S.b,0,none⟩),tv,.int .i64 (kn : Int),.int .i64 h] w (GV (fun V=>V.nodes ≤ 1 + 6 * N ∧ V.labels = []) S w):=by
  have hltS:=hS.lt
  obtain ⟨pT,cT,rfl,hR,-⟩:=id hT
  obtain ⟨a,o,cs,rfl,hal,-,hrange,hNC⟩:=hR.all hkn
  rw [hnode] at hNC
  obtain ⟨kd,lo_,hi_,tx,ks,fs,r0,r1⟩:=n
  obtain ⟨p1,c1,p2,c2,rfl,hI,hF⟩:=hNC
  simp only at hI hF hrange
  obtain rfl : kd = 14:=hkd
  simp only at hkl
  have Hkl:=zH hkl
  clear hkl
  obtain ⟨w2,e9,hA,hC,hb⟩:=t1f w (.cells #[.slice (some ⟨a,o,none⟩) T.nodes.length cT,.int .i64 T.root] 31) (.cells #[.int .i64 0,.int .i64 0,.string ⟨#[]⟩,.slice none 0 0,.slice none 0 0,.slice none 0 0,.slice none 0 0] 28)
  have hs2 : w2.heap.size = w.heap.size + 2:=by rw [← e9];simp
  obtain ⟨w4,e8,hB4,hV4,hb4⟩:=t1f w2 (.cells #[.int .i64 14,.int .i64 lo_,.int .i64 hi_,.string tx,.slice p1 ks.length c1,.slice p2 fs.length c2,.int .i64 r0,.int .i64 r1] 48) (.cells #[.int .i64 0,.int .i64 0,.string ⟨#[]⟩,.slice none 0 0,.slice none 0 0,.slice none 0 0,.slice none 0 0] 28)
  have hs4 : w4.heap.size = w2.heap.size + 2:=by rw [← e8];simp
  have E8:=zH e8;clear e8
  have H2:=zH ((SR.refl hS).app hb)
  have H4:=zH (H2.out.step hb4)
  have hrg:=hrange _ H2.out.bel
  have a0:=t0l (hrg 0 _ rfl);have a1:=t0l (hrg 1 _ rfl);have a2:=t0l (hrg 2 _ rfl);have a3:=t0l (hrg 3 _ rfl)
  have a4:=t0l (hrg 4 _ rfl);have a5:=t0l (hrg 5 _ rfl);have a6:=t0l (hrg 6 _ rfl);have a7:=t0l (hrg 7 _ rfl)
  simp only [Nat.add_zero] at a0
  have HT:=zH (hT.sr H4.out)
  have HI:=zH (show IS (wo S.b w4) (.slice p1 ks.length c1) ks from hI.below H4.out.bel)
  have HF:=zH (show Rw (wo S.b w4) p2 c2 4 fs FC from hF.below H4.out.bel fun _ _ _ h=>h)
  have hNC : NC (wo S.b w4) ⟨14,lo_,hi_,tx,ks,fs,r0,r1⟩ [.int .i64 14,.int .i64 lo_,.int .i64 hi_,.string tx,.slice p1 ks.length c1,.slice p2 fs.length c2,.int .i64 r0,.int .i64 r1]:=⟨p1,c1,p2,c2,rfl,HI.out,HF.out⟩
  have HNC:=zH hNC
  rw [hs2] at hB4 hV4
  have HB4:=zH hB4;have HV4:=zH hV4
  have HA4:=zH ((hb4.block w.heap.size (by omega)).trans hA)
  have HO4:=zH ((hb4.block (w.heap.size + 1) (by omega)).trans hC)
  obtain ⟨g0,g1⟩:=t0k hA
  have Hs4:=zH (show w4.heap.size = (w.heap.size + 4) by omega)
  have Hb:=zH (show (w.heap.size + 1) ≠ S.b by omega)
  have HEx:=zH (show lo (w.heap.size + 4) (w.heap.size + 1) = true by simp [lo])
  have HEl:=zH (show ∀ k,k < w.heap.size → lo (w.heap.size + 4) k = true from fun k hk=>by simp [lo];omega)
  have dk : decide (T.nodes.length ≤ kn) = false:=by simp;omega
  have dk2 : decide (kn < T.nodes.length) = true:=by simp [hkn]
  have dk3 : decide ((kn : Int) < 0) = false:=by simp
  have dh : decide (h ≤ 0) = false:=by simp;omega
  clear hB4 hV4 hA hC hb hb4 hR hrange hrg hI hF hNC hS hT hnode
  go_enter Tryz.func40,Tryz.ntmps40
  go_upto_region 1 with fail
  try rw [e9]
  go_upto_region 5 with fail
  (try have e8:=E8.out)
  try rw [hs2]
  try rw [e8]
  try rw [hs2]
  clear e9 e8 E8 g0 g1 a0 a1 a2 a3 a4 a5 a6 a7 dk dk3 dh hs2 hs4
  obtain ⟨⟨n0,n1,n2,n3⟩,n4,n5,n6,n7⟩:=t0y HB4.out
  have Hv:=zH hv
  clear hv
  obtain ⟨t0,t1⟩:=t0k HA4.out
  have hwo : (w.heap.size + 4) ≤ w4.heap.size:=by have:=Hs4.out;omega
  go_wp2_with (first
    | (go_at_call 78;refine (te1 T _ N S h _ _ q hN h1 hh Hkl.out hq2 Hv.out w4 H4.out.src HT.out HNC.out).mono ?_;rintro e w5 ⟨v5,X,rfl,hx,hq,hs⟩;obtain ⟨dv,cs,rfl,hx⟩:=hx;obtain ⟨x1,x2,x3,x4,x5,x6,x7,x8,rfl⟩:=hx.seven;have HX:=zH (show VW (we (lo (w.heap.size + 4)) w5) _ X from ⟨dv,_,rfl,hx.sub (t1m w5 (show (w.heap.size + 4) ≤ w4.heap.size from hwo))⟩);have Hq:=zH hq;have H5:=zH (H4.out.trans hs);have Z5:=zH ((hs.block (t0a HO4.out) Hb.out).trans HO4.out);clear hx hq hs)
    | (with_reducible refine wpList_store_row rfl 28 (.tmp 8) (.tmp 140) rfl _ _ rfl rfl _ _ Z5.out (by kernel_rfl) (by kernel_rfl) (by kernel_rfl) ?_))
  refine bodyPost_ret (results_cell_row rfl _ _ (w.heap.size + 1) 28 _ (0,0) _ rfl (setRow_heap _ _ _ _ _ _ Z5.out) rfl rfl (by kernel_rfl)) rfl ?_
  exact ⟨_,X,rfl,t1v HX.out HEx.out HEl.out _,Hq.out,H5.out.row (by omega) Hb.out _⟩
set_option maxHeartbeats 64000000 in
theorem tib (T : Ty) (tv : Value) (S : SD) (kn : Nat) (h : Int) (n : TN) (h1 : 1 ≤ h) (hh : h ≤ 1000) (hkn : kn < T.nodes.length) (hnode : T.nodes[kn] = n) (hkd : n.kind = 16) (N Lb : Nat) (hk1 : 1 ≤ n.kids.length) (hkl : n.kids.length ≤ 3) (hnear : ∀ k ∈ n.kids,NB T tv N Lb S k h) (w : World) (hS : SRC S w) (hT : TB S T tv w) : Calls Tryz.prog 40 #[.pointer (some ⟨S.b,0,none⟩),tv,.int .i64 (kn : Int),.int .i64 h] w (GV (fun V=>V.nodes ≤ N ∧ V.labels.length ≤ Lb) S w):=by
  have hltS:=hS.lt
  obtain ⟨pT,cT,rfl,hR,-⟩:=id hT
  obtain ⟨a,o,cs,rfl,hal,-,hrange,hNC⟩:=hR.all hkn
  rw [hnode] at hNC
  obtain ⟨kd,lo_,hi_,tx,ks,fs,r0,r1⟩:=n
  obtain ⟨p1,c1,p2,c2,rfl,hI,hF⟩:=hNC
  simp only at hI hF hrange
  obtain rfl : kd = 16:=hkd
  simp only at hk1 hkl hnear
  obtain ⟨w2,e9,hA,hC,hb⟩:=t1f w (.cells #[.slice (some ⟨a,o,none⟩) T.nodes.length cT,.int .i64 T.root] 31) (.cells #[.int .i64 0,.int .i64 0,.string ⟨#[]⟩,.slice none 0 0,.slice none 0 0,.slice none 0 0,.slice none 0 0] 28)
  have hs2 : w2.heap.size = w.heap.size + 2:=by rw [← e9];simp
  obtain ⟨w4,e8,hB4,hV4,hb4⟩:=t1f w2 (.cells #[.int .i64 16,.int .i64 lo_,.int .i64 hi_,.string tx,.slice p1 ks.length c1,.slice p2 fs.length c2,.int .i64 r0,.int .i64 r1] 48) (.cells #[.int .i64 0,.int .i64 0,.string ⟨#[]⟩,.slice none 0 0,.slice none 0 0,.slice none 0 0,.slice none 0 0] 28)
  have hs4 : w4.heap.size = w2.heap.size + 2:=by rw [← e8];simp
  have E8:=zH e8;clear e8
  have H2:=zH ((SR.refl hS).app hb)
  have H4:=zH (H2.out.step hb4)
  have hrg:=hrange _ H2.out.bel
  have a0:=t0l (hrg 0 _ rfl);have a1:=t0l (hrg 1 _ rfl);have a2:=t0l (hrg 2 _ rfl);have a3:=t0l (hrg 3 _ rfl)
  have a4:=t0l (hrg 4 _ rfl);have a5:=t0l (hrg 5 _ rfl);have a6:=t0l (hrg 6 _ rfl);have a7:=t0l (hrg 7 _ rfl)
  simp only [Nat.add_zero] at a0
  have HT:=zH (hT.sr H4.out)
  have HI:=zH (show IS (wo S.b w4) (.slice p1 ks.length c1) ks from hI.below H4.out.bel)
  have HF:=zH (show Rw (wo S.b w4) p2 c2 4 fs FC from hF.below H4.out.bel fun _ _ _ h=>h)
  have hNC : NC (wo S.b w4) ⟨16,lo_,hi_,tx,ks,fs,r0,r1⟩ [.int .i64 16,.int .i64 lo_,.int .i64 hi_,.string tx,.slice p1 ks.length c1,.slice p2 fs.length c2,.int .i64 r0,.int .i64 r1]:=⟨p1,c1,p2,c2,rfl,HI.out,HF.out⟩
  have HNC:=zH hNC
  rw [hs2] at hB4 hV4
  have HB4:=zH hB4;have HV4:=zH hV4
  have HA4:=zH ((hb4.block w.heap.size (by omega)).trans hA)
  have HO4:=zH ((hb4.block (w.heap.size + 1) (by omega)).trans hC)
  obtain ⟨g0,g1⟩:=t0k hA
  have Hs4:=zH (show w4.heap.size = (w.heap.size + 4) by omega)
  have Hb:=zH (show (w.heap.size + 1) ≠ S.b by omega)
  have HEx:=zH (show lo (w.heap.size + 4) (w.heap.size + 1) = true by simp [lo])
  have HEl:=zH (show ∀ k,k < w.heap.size → lo (w.heap.size + 4) k = true from fun k hk=>by simp [lo];omega)
  have dk : decide (T.nodes.length ≤ kn) = false:=by simp;omega
  have dk2 : decide (kn < T.nodes.length) = true:=by simp [hkn]
  have dk3 : decide ((kn : Int) < 0) = false:=by simp
  have dh : decide (h ≤ 0) = false:=by simp;omega
  clear hB4 hV4 hA hC hb hb4 hR hrange hrg hI hF hNC hS hT hnode
  go_enter Tryz.func40,Tryz.ntmps40
  go_upto_region 1 with fail
  try rw [e9]
  go_upto_region 5 with fail
  (try have e8:=E8.out)
  try rw [hs2]
  try rw [e8]
  try rw [hs2]
  clear e9 e8 E8 g0 g1 a0 a1 a2 a3 a4 a5 a6 a7 dk dk3 dh hs2 hs4
  obtain ⟨⟨n0,n1,n2,n3⟩,n4,n5,n6,n7⟩:=t0y HB4.out
  have Hv:=zH hnear
  clear hnear
  obtain ⟨t0,t1⟩:=t0k HA4.out
  have hwo : (w.heap.size + 4) ≤ w4.heap.size:=by have:=Hs4.out;omega
  have YT:=zH (show w4.drew.cell? ⟨w.heap.size,0,none⟩ = _ from t0)
  have YN:=zH (show w4.drew.cell? ⟨w.heap.size + 2,4,none⟩ = _ from n4)
  have Hn2:=zH (show w.heap.size + 2 ≠ S.b by omega)
  go_wp2_with (first
    | ((with_reducible refine Lex.t0w ?_);refine fE (by repeat first | exact LexK.t0t | refine LexK.t0o rfl ?_ | refine LexK.t0p (by decide +kernel) ?_ | refine LexK.t0c rfl ⟨by omega,by omega⟩ YT.out ?_ | refine LexK.t0c rfl ⟨by omega,by omega⟩ YN.out ?_ | refine LexK.t0c rfl ⟨by omega,Hab.out⟩ YK.out ?_) ?_)
    | ((with_reducible refine Lex.t0q ?_);refine LexK.t0h (fun x=>x < (w.heap.size + 4) ∧ x ≠ S.b) (by kernel_rfl) (by decide +kernel) ?_)
    | (with_reducible first | refine qH ?_ | refine LexK.t0s ?_ | refine LexK.t0v ?_)
    | ((with_reducible refine Lex.t1b ?_);first | (refine LexK.t0e hex5.out ?_) | (refine LexK.t0e hex6.out ?_) | (refine LexK.t0e (LexK.Ext.alloc _ _) ?_) | (refine LexK.t0e (LexK.Ext.refl _) ?_))
    | (go_at_call 24;refine (t0z S (ks.length : Int) w4.drew H4.out.drew.src (by omega)).mono ?_;rintro e w6 ⟨y,rfl,hs,h0y,h1y,-⟩;have h1y:=h1y (by omega);obtain ⟨m,rfl⟩ : ∃ m : Nat,y = (m : Int):=⟨y.toNat,by omega⟩;have hmk : m < ks.length:=(by omega);have dmk : decide (m < ks.length) = true:=(by simp [hmk]);have hex6:=zH (t2v hs (by exact hwo));have H6:=zH (H4.out.drew.trans hs);have Z6:=zH (((SR.refl H4.out.src).drew.trans hs).block (t0a HO4.out) Hb.out |>.trans HO4.out);have HS6:=zH ((SR.refl H4.out.src).drew.trans hs);clear t0 t1 n4;have t0 : w6.cell? ⟨w.heap.size,0,none⟩ = _:=t1p HS6.out (t0k HA4.out).1 (by omega) (by omega);have t1 : w6.cell? ⟨w.heap.size,1,none⟩ = _:=t1p HS6.out (t0k HA4.out).2 (by omega) (by omega);have n4 : w6.cell? ⟨w.heap.size + 2,4,none⟩ = _:=t1p HS6.out YN.out (by omega) (by omega);obtain ⟨ak,ok,rfl,hab,hal2,hcell⟩:=t4k HI.out hmk;have Hab:=zH hab;have q0:=hcell _ HS6.out;have Hmem:=zH (List.getElem_mem hmk);have YK:=zH (show w4.drew.cell? ⟨ak,ok + m,none⟩ = _ from hcell _ (SR.refl H4.out.src).drew);generalize hkj : ks[m] = kj at *;have hw6 : (w.heap.size + 4) ≤ w6.heap.size:=Nat.le_trans hwo HS6.out.size;clear hs hcell hab hkj)
    | (go_at_call 40;refine (Hv.out kj Hmem.out w6 H6.out.src (HT.out.sr HS6.out)).mono ?_;rintro e w5 ⟨v5,X,rfl,hx,hq,hs⟩;obtain ⟨dv,cs,rfl,hx⟩:=hx;obtain ⟨x1,x2,x3,x4,x5,x6,x7,x8,rfl⟩:=hx.seven;have HX:=zH (show VW (we (lo (w.heap.size + 4)) w5) _ X from ⟨dv,_,rfl,hx.sub (t1m w5 hw6)⟩);have Hq:=zH hq;have hex5:=zH (t2v hs hw6);have H5:=zH (H6.out.trans hs);have Z5:=zH ((hs.block (t0a Z6.out) Hb.out).trans Z6.out);clear hx hq hs)
    | (with_reducible refine wpList_store_row rfl 28 (.tmp 8) (.tmp 155) rfl _ _ rfl rfl _ _ Z5.out (by kernel_rfl) (by kernel_rfl) (by kernel_rfl) ?_))
  refine bodyPost_ret (results_cell_row rfl _ _ (w.heap.size + 1) 28 _ (0,0) _ rfl (setRow_heap _ _ _ _ _ _ Z5.out) rfl rfl (by kernel_rfl)) rfl ?_
  exact ⟨_,X,rfl,t1v HX.out HEx.out HEl.out _,Hq.out,H5.out.row (by omega) Hb.out _⟩
end Go.Proofs.YtjgldaaofdpcgaaGreat
