/-
  Walks: Restrict's closure.
-/
import Derived.Test.YtkppcibffbnhoaaM1
namespace Go.Proofs.Ytkppcibffbnhoaa
open Go.RowKit
set_option maxRecDepth 100000

theorem QI.drewN {c : QP} {L : List T} {K : List Nat} {f : Nat → Option Int} {v : Value} {w : World} (h : QI c L K f v w) (n : Nat) : QI c L K f v (w.drewN n) := h.below ⟨rfl, rfl, rfl, Nat.le_refl _, fun _ _ => rfl⟩
theorem QI.ext2 {c : QP} {L : List T} {K : List Nat} {f : Nat → Option Int} {v v' : Value} {w w' : World} (h : QI c L K f v w) (hf : Fr [c.b, c.kb, c.rm] v v' w w') {g : Nat} (hg : g ∉ [c.b, c.kb, c.rm]) (hv : v.ownBlock ≠ some g) : LexK.Ext (fun x => x = c.apv ∨ x = g) w w' := by
  obtain ⟨a1, b1⟩ := h.far' h.s.apv (by decide) (by decide)
  refine ext_fr hf ?_ ?_
  · rintro x hx (rfl | rfl)
    · exact a1 hx
    · exact hg hx
  · rintro g2 hg2 (rfl | rfl)
    · exact b1 hg2
    · exact hv hg2
set_option maxHeartbeats 8000000 in
theorem rest_hit (c : QP) (m : Nat) (s R : T) (L : List T) (K : List Nat) (f : Nat → Option Int) (v : Value) (w : World) (h : QI c L K f v w) (is : inn c.La s) (hR : Rst c.ln c.vb s R) (r : Int) (hf : f (ref c.La s) = some r) :
    Calls Try.prog 49 #[.int .i64 (ref c.La s : Nat), .pointer (some ⟨c.rsv, 0, none⟩), .pointer (some ⟨c.av, 0, none⟩), .pointer (some ⟨c.apv, 0, none⟩), .pointer (some ⟨c.lv, 0, none⟩), .pointer (some ⟨c.ouv, 0, none⟩), .pointer (some ⟨c.bv, 0, none⟩)] w (QR c R m L K v w) := by
  obtain ⟨iR, rfl⟩ := h.t.memo.val s R r is hR hf
  have hrs := ref_lt is
  have hlA := h.s.lA
  have hfin : QR c R m L K v w (.returned (.int .i64 (ref L R))) w := ⟨L, K, f, v, rfl, Grow.refl _, iR, h, Fr.refl _ _ _, fun z hz => .inl hz⟩
  generalize ref c.La s = rs at *
  obtain ⟨r0, -⟩ := cells1 h.s.rsv
  have Hf := Lib.hid hfin; have H := Lib.hid h; have Hff := Lib.hid hf
  clear hfin h hf iR hR is
  go_enter Try.func49, Try.ntmps49
  go_wp2_with (first
    | (at_lookup; refine wpList_mv_look code1 (by kernel_rfl) _ rfl _ _ rfl c.rm K.length f rfl H.out.t.mp rs (show rs ≤ _ by omega) rfl ?_; rw [Hff.out]; intro cc hc; obtain rfl := hc _ rfl))
  go_ret
  exact Hf.out

set_option maxHeartbeats 16000000 in
theorem rest_miss (c : QP) (l : Nat) (h k R : T) (L : List T) (K : List Nat) (f : Nat → Option Int) (v : Value) (w : World) (hq : QI c L K f v w) (iN : T.n l h k ∈ c.La) (hR : Rst c.ln c.vb (.n l h k) R) (hf : f (ref c.La (.n l h k)) = none)
    (ih : ∀ (s' R' : T) (L : List T) (K : List Nat) (f : Nat → Option Int) (v : Value) (w : World), s' = h ∨ s' = k → QI c L K f v w → inn c.La s' → Rst c.ln c.vb s' R' → Calls Try.prog 49 #[.int .i64 (ref c.La s' : Nat), .pointer (some ⟨c.rsv, 0, none⟩), .pointer (some ⟨c.av, 0, none⟩), .pointer (some ⟨c.apv, 0, none⟩), .pointer (some ⟨c.lv, 0, none⟩), .pointer (some ⟨c.ouv, 0, none⟩), .pointer (some ⟨c.bv, 0, none⟩)] w (QR c R' s'.sz L K v w)) :
    Calls Try.prog 49 #[.int .i64 (ref c.La (.n l h k) : Nat), .pointer (some ⟨c.rsv, 0, none⟩), .pointer (some ⟨c.av, 0, none⟩), .pointer (some ⟨c.apv, 0, none⟩), .pointer (some ⟨c.lv, 0, none⟩), .pointer (some ⟨c.ouv, 0, none⟩), .pointer (some ⟨c.bv, 0, none⟩)] w (QR c R (T.n l h k).sz L K v w) := by
  have oN := hq.s.wfA.ok _ iN
  have l12 := lit_lt oN
  obtain ⟨H, G, hH, hG, hE, hN⟩ := hR.node oN
  obtain ⟨kh, kk⟩ := hq.s.wfA.kids iN
  have inN : inn c.La (T.n l h k) := iN
  obtain ⟨hidx, hnode⟩ := nodes_at iN
  obtain ⟨a, o, hp, haZ, x0, x1, x2⟩ := hq.s.na _ hidx
  simp only [hnode] at x0 x1 x2
  have ihh := fun L K f v w hw => ih h H L K f v w (.inl rfl) hw kh hH
  have ihl := fun L K f v w hw => ih k G L K f v w (.inr rfl) hw kk hG
  have hz1 : h.sz < (T.n l h k).sz := by simp [T.sz]; omega
  have hz2 : k.sz < (T.n l h k).sz := by simp [T.sz]; omega
  have hsm : ∀ m, m < (T.n l h k).sz → ∀ z, SmallQ c m z → SmallQ c (T.n l h k).sz z ∧ z ≠ ref c.La (T.n l h k) := by
    rintro m hm z ⟨s, i1, rfl, h3⟩
    refine ⟨⟨s, i1, rfl, by omega⟩, fun e => ?_⟩
    have e1 := ref_inj i1 inN e
    subst e1; omega
  have hself : SmallQ c (T.n l h k).sz (ref c.La (T.n l h k)) := ⟨_, inN, rfl, Nat.le_refl _⟩
  have hpl : ∀ L' K' f', inn L' R → Mem1 c.ln c.vb c.La L' K' f' → f' (ref c.La (T.n l h k)) = none → Mem1 c.ln c.vb c.La L' (ref c.La (T.n l h k) :: K') (fun z => if z = ref c.La (T.n l h k) then some ((ref L' R : Nat) : Int) else f' z) := fun L' K' f' h2 h3 h1 => h3.put inN hR h2 h1
  have hrs := ref_lt inN
  have hlA := hq.s.lA
  have hsm1 := hsm _ hz1
  have hsm2 := hsm _ hz2
  clear hsm hz1 hz2 ih hR
  have hrt : ref c.La (T.n l h k) = c.La.idxOf (T.n l h k) + 2 := rfl
  rw [hrt] at hsm1 hsm2 hself hpl hrs hf ⊢
  have hll := nodes_length c.La
  generalize c.La.idxOf (T.n l h k) = idx at *
  generalize (T.n l h k).sz = m at *
  generalize ref c.La h = rh at *
  generalize ref c.La k = rk at *
  generalize h.sz = m1 at *
  generalize k.sz = m2 at *
  have hi2 : ((idx + 2 : Nat) : Int) = (idx : Int) + 2 := by simp
  rw [hi2]
  clear hrt hnode inN iN kh kk
  have hal : Below w.heap.size w (w.alloc (.cells #[.int .i64 l, .int .i64 rh, .int .i64 rk] 32)) := (Below.refl _ _).alloc (Nat.le_refl _) _
  have hnew := heap_alloc_new w (.cells #[.int .i64 l, .int .i64 rh, .int .i64 rk] 32)
  have HK := Lib.hid (show (idx + 2) ∉ K from fun hm => by have := (hq.t.memo.mem _).1 hm; rw [hf] at this; cases this)
  have zb1 := heap_lt hq.t.bd.blk
  have zb2 := hq.t.bd.kn.lt
  have zb3 := hq.t.mp.lt
  have hgb : w.heap.size ∉ [c.b, c.kb, c.rm] := by simp; omega
  have hv0 : v.ownBlock ≠ some w.heap.size := fun e => by have := (hq.t.bd.own.lt _ e).2; omega
  obtain ⟨r0, -⟩ := cells1 hq.s.rsv
  obtain ⟨a0, -, -⟩ := cells2 hq.s.av
  rw [hp] at a0
  have Hf := Lib.hid hf; have HC0 := Lib.hid hq; have Hal := Lib.hid hal; have Hnew := Lib.hid hnew
  have Ihh := Lib.hid ihh; have Ihl := Lib.hid ihl; have Hsm1 := Lib.hid hsm1; have Hsm2 := Lib.hid hsm2; have Hself := Lib.hid hself; have Hpl := Lib.hid hpl
  have Hgb := Lib.hid hgb; have Hv0 := Lib.hid hv0; have HE := Lib.hid hE; have HN := Lib.hid hN; have HH := Lib.hid hH; have HG := Lib.hid hG
  clear hf hq hal hnew ihh ihl hsm1 hsm2 hself hpl hgb hv0 hE hN hH hG zb1 zb2 zb3 haZ hp
  go_enter Try.func49, Try.ntmps49
  go_upto_region 5 with (at_lookup; refine wpList_mv_look code1 (by kernel_rfl) _ rfl _ _ rfl c.rm K.length f rfl HC0.out.t.mp (idx + 2) (show idx + 2 ≤ _ by omega) rfl ?_; rw [Hf.out]; intro cc hc)
  have HCa := Lib.hid (HC0.out.below Hal.out)
  have Hfa := Lib.hid (Fr.of_below (S := [c.b, c.kb, c.rm]) (v := v) Hal.out)
  generalize w.alloc (.cells #[.int .i64 l, .int .i64 rh, .int .i64 rk] 32) = wa at *
  clear Hal r0 a0 x0 x1 x2 HC0
  obtain ⟨g, hg⟩ : ∃ g, g = w.heap.size := ⟨_, rfl⟩
  rw [← hg] at Hnew Hgb Hv0
  rw [← hg]
  clear hg
  have HCd := Lib.hid (show QI c L K f v wa.drew from HCa.out.drewN 1)
  have Hnd := Lib.hid (show wa.drew.heap[g]? = _ from Hnew.out)
  have y0 := Lib.hid (show wa.drew.cell? ⟨c.apv, 0, none⟩ = _ from (cells1 HCa.out.s.apv).1)
  have y1 := Lib.hid (show wa.drew.cell? ⟨g, 1, none⟩ = _ from (cellsT Hnew.out).2.1)
  have y2 := Lib.hid (show wa.drew.cell? ⟨g, 2, none⟩ = _ from (cellsT Hnew.out).2.2)
  obtain ⟨p0, -⟩ := cells1 HCa.out.s.apv
  obtain ⟨n0, n1, n2⟩ := cellsT Hnew.out
  go_upto_region 6 with (first
    | ((with_reducible refine Lex.at_finK ?_); refine LexK.finE_on (by kernel_rfl) (by repeat first | exact LexK.finL_nil | refine LexK.finL_none rfl ?_ | refine LexK.finL_skip (by decide +kernel) ?_ | refine LexK.finL_take rfl (.inl rfl) y0.out ?_ | refine LexK.finL_take rfl (.inr rfl) y1.out ?_ | refine LexK.finL_take rfl (.inr rfl) y2.out ?_) ?_)
    | ((with_reducible refine Lex.at_region ?_); refine LexK.wp_region_lexE (fun x => x = c.apv ∨ x = g) (by kernel_rfl) (by decide +kernel) ?_)
    | ((with_reducible refine Lex.at_wpX ?_); with_reducible refine LexK.wpX_plain (by decide +kernel) ?_)
    | ((with_reducible refine Lex.at_wpX ?_); with_reducible refine LexK.wpX_call ?_)
    | ((with_reducible refine Lex.at_wpX ?_); with_reducible refine LexK.wpX_nil ?_)
    | ((with_reducible refine Lex.at_ext ?_); with_reducible refine LexK.ext_on Hext.out ?_)
    | (go_at_call 49; ((with_reducible refine (Ihh.out _ _ _ _ _ HCd.out).mono ?_); rintro e w1 ⟨L1, K1, f1, v1, rfl, g1, i1, hC1, hf1, hk1⟩; have G1 := Lib.hid g1; clear g1; have HC1 := Lib.hid hC1; have Hf1 := Lib.hid hf1; have Hk1 := Lib.hid hk1; have I1 := Lib.hid i1; clear hC1 hf1 hk1 i1; have Hext := Lib.hid (HCd.out.ext2 Hf1.out Hgb.out Hv0.out); obtain ⟨hp1, hv1⟩ := Hf1.out.pair Hnd.out Hgb.out Hv0.out; have Hn1 := Lib.hid hp1; have Hv1 := Lib.hid hv1; clear hp1 hv1; obtain ⟨q1, -⟩ := cells1 HC1.out.s.apv; obtain ⟨n10, n11, n12⟩ := cellsT Hn1.out))
    | (go_at_call 49; ((with_reducible refine (Ihl.out _ _ _ _ _ HC1.out).mono ?_); rintro e w2 ⟨L2, K2, f2, v2, rfl, g2, i2, hC2, hf2, hk2⟩; have G2 := Lib.hid g2; clear g2; have HC2 := Lib.hid hC2; have Hf2 := Lib.hid hf2; have Hk2 := Lib.hid hk2; have I2 := Lib.hid i2; clear hC2 hf2 hk2 i2; have Hext := Lib.hid (HC1.out.ext2 Hf2.out Hgb.out Hv1.out); obtain ⟨hp2, hv2⟩ := Hf2.out.pair Hn1.out Hgb.out Hv1.out; have Hn2 := Lib.hid hp2; have Hv2 := Lib.hid hv2; clear hp2 hv2)))
  have hzk : (idx + 2) ∉ K2 := fun hm => by
    rcases Hk2.out _ hm with h1 | h1
    · rcases Hk1.out _ h1 with h2 | h2
      · exact HK.out h2
      · exact (Hsm1.out _ h2).2 rfl
    · exact (Hsm2.out _ h1).2 rfl
  have hfz : f2 (idx + 2) = none := by
    cases hq : f2 (idx + 2) with
    | none => rfl
    | some q => exact absurd ((HC2.out.t.memo.mem _).2 (by rw [hq]; rfl)) hzk
  have Hfz := Lib.hid hfz
  have hkeys : ∀ z ∈ (idx + 2) :: K2, z ∈ K ∨ SmallQ c m z := fun z hz => by
    rcases List.mem_cons.1 hz with rfl | h0
    · exact .inr Hself.out
    · rcases Hk2.out _ h0 with h1 | h1
      · rcases Hk1.out _ h1 with h2 | h2
        · exact .inl h2
        · exact .inr (Hsm1.out _ h2).1
      · exact .inr (Hsm2.out _ h1).1
  have Hkeys := Lib.hid hkeys
  clear hkeys hfz hzk p0 n0 n1 n2 n10 n11 n12 q1 y0 y1 y2
  have hlen2 := HC2.out.t.lens HC2.out.s
  obtain ⟨n0, n1, n2⟩ := cellsT Hn2.out
  obtain ⟨l0, -⟩ := cells1 HC2.out.s.lv
  obtain ⟨b0, -⟩ := cells1 HC2.out.s.bv
  obtain ⟨o0, -⟩ := cells1 HC2.out.s.ouv
  by_cases hl : (l : Int) = c.ln
  · have fl : ((l : Int) != c.ln) = false := by simp [hl]
    have hR0 := HE.out hl
    clear hl
    have HR0 := Lib.hid hR0
    have HHr := Lib.hid (G2.out.ref I1.out)
    have HHi := Lib.hid (G2.out.inn I1.out)
    clear hR0
    cases hvb : c.vb
    case true =>
      rw [hvb] at b0
      have hR1 : R = H := by rw [HR0.out, hvb]; rfl
      have IR := Lib.hid (show inn L2 R by rw [hR1]; exact HHi.out)
      have HRr := Lib.hid (show ref L1 H = ref L2 R by rw [hR1]; exact HHr.out.symm)
      clear hvb hR1
      have hmm := Hpl.out L2 K2 f2 IR.out (by obtain ⟨MM, hMM⟩ := ((Grow.refl L2) : Grow L2 L2); rw [hMM]; exact HC2.out.t.memo.grow MM) Hfz.out
      have Hmm := Lib.hid hmm; clear hmm
      have hr3 := ref_lt (IR.out : inn L2 R)
      have hl3 := (Nat.le_succ L2.length)
      have hRL : ref L1 H = ref L2 R := HRr.out
      rw [hRL]
      have Hmv := Lib.hid (HC2.out.mid (Fr.refl _ _ _)).2
      obtain ⟨r3, -⟩ := cells1 (HC2.out.stays (HC2.out.mid (Fr.refl _ _ _)).1).rsv
      go_wp2_with (first
        | (at_mapUpdate; go_loud (refine wpList_mv_put code1 (by kernel_rfl) _ rfl _ _ _ (.inl rfl) c.rm K2.length f2 rfl Hmv.out (by omega) (idx + 2) (show idx + 2 ≤ _ by omega) rfl ((ref L2 R : Nat) : Int) rfl (wf_nat (by omega)) ?_; intro w4 hm4 ht4; have Hm4 := Lib.hid hm4; clear hm4; have Ht4 := Lib.hid ht4; clear ht4)))
      go_ret
      obtain ⟨hci, hf4⟩ := HC2.out.done HC2.out.t.bd (Fr.refl _ _ _) (idx + 2) _ Hm4.out Ht4.out HC2.out.t.wf Hmm.out (Nat.le_succ L2.length)
      exact ⟨L2, _, _, v2, rfl, G1.out.trans (G2.out.trans (Grow.refl L2)), IR.out, hci, Hfa.out.trans ((Fr.drew0 Hf1.out).trans (Hf2.out.trans hf4)), Hkeys.out⟩
    case false =>
      rw [hvb] at b0
      have hR1 : R = G := by rw [HR0.out, hvb]; rfl
      have IR := Lib.hid (show inn L2 R by rw [hR1]; exact I2.out)
      have HRr := Lib.hid (show ref L2 G = ref L2 R by rw [hR1])
      clear hvb hR1
      have hmm := Hpl.out L2 K2 f2 IR.out (by obtain ⟨MM, hMM⟩ := ((Grow.refl L2) : Grow L2 L2); rw [hMM]; exact HC2.out.t.memo.grow MM) Hfz.out
      have Hmm := Lib.hid hmm; clear hmm
      have hr3 := ref_lt (IR.out : inn L2 R)
      have hl3 := (Nat.le_succ L2.length)
      have hRL : ref L2 G = ref L2 R := HRr.out
      rw [hRL]
      have Hmv := Lib.hid (HC2.out.mid (Fr.refl _ _ _)).2
      obtain ⟨r3, -⟩ := cells1 (HC2.out.stays (HC2.out.mid (Fr.refl _ _ _)).1).rsv
      go_wp2_with (first
        | (at_mapUpdate; go_loud (refine wpList_mv_put code1 (by kernel_rfl) _ rfl _ _ _ (.inl rfl) c.rm K2.length f2 rfl Hmv.out (by omega) (idx + 2) (show idx + 2 ≤ _ by omega) rfl ((ref L2 R : Nat) : Int) rfl (wf_nat (by omega)) ?_; intro w4 hm4 ht4; have Hm4 := Lib.hid hm4; clear hm4; have Ht4 := Lib.hid ht4; clear ht4)))
      go_ret
      obtain ⟨hci, hf4⟩ := HC2.out.done HC2.out.t.bd (Fr.refl _ _ _) (idx + 2) _ Hm4.out Ht4.out HC2.out.t.wf Hmm.out (Nat.le_succ L2.length)
      exact ⟨L2, _, _, v2, rfl, G1.out.trans (G2.out.trans (Grow.refl L2)), IR.out, hci, Hfa.out.trans ((Fr.drew0 Hf1.out).trans (Hf2.out.trans hf4)), Hkeys.out⟩
  · have fl : ((l : Int) != c.ln) = true := by simp [hl]
    obtain ⟨eR, lH, lG⟩ := HN.out hl
    clear hl
    have hnode := nodeq_step HC2.out l H G (G2.out.inn I1.out) I2.out l12 _ (G2.out.ref I1.out).symm
    obtain ⟨wf3, i3⟩ := nodeL_wf HC2.out.t.wf HH.out.ok HG.out.ok lH lG (G2.out.inn I1.out) I2.out
    obtain ⟨MM, eL3, lL3⟩ := nodeL_app L2 l H G
    have g3 : Grow L2 (nodeL L2 l H G) := ⟨MM, eL3⟩
    have len3 : (nodeL L2 l H G).length ≤ L2.length + 1 := by rw [eL3, List.length_append]; omega
    rw [← eR] at i3 hnode
    clear eL3 lL3 eR lH lG
    generalize nodeL L2 l H G = L3 at *
    have Hnode := Lib.hid hnode; have Wf3 := Lib.hid wf3; have I3 := Lib.hid i3; have G3 := Lib.hid g3; have Len3 := Lib.hid len3
    clear hnode wf3 i3 g3 len3
    go_upto_region 11 with (go_at_call 32; ((with_reducible refine Hnode.out.mono ?_); rintro e w3 ⟨v3, rfl, hB3, hf3⟩; have HB3 := Lib.hid hB3; have Hf3 := Lib.hid hf3; clear hB3 hf3))
    have hmm := Hpl.out L3 K2 f2 I3.out (by obtain ⟨MM, hMM⟩ := (G3.out : Grow L2 L3); rw [hMM]; exact HC2.out.t.memo.grow MM) Hfz.out
    have Hmm := Lib.hid hmm; clear hmm
    have hr3 := ref_lt (I3.out : inn L3 R)
    have hl3 := Len3.out
    have hRL : ref L3 R = ref L3 R := rfl
    skip
    have Hmv := Lib.hid (HC2.out.mid Hf3.out).2
    obtain ⟨r3, -⟩ := cells1 (HC2.out.stays (HC2.out.mid Hf3.out).1).rsv
    go_wp2_with (first
      | (at_mapUpdate; go_loud (refine wpList_mv_put code1 (by kernel_rfl) _ rfl _ _ _ (.inl rfl) c.rm K2.length f2 rfl Hmv.out (by omega) (idx + 2) (show idx + 2 ≤ _ by omega) rfl ((ref L3 R : Nat) : Int) rfl (wf_nat (by omega)) ?_; intro w4 hm4 ht4; have Hm4 := Lib.hid hm4; clear hm4; have Ht4 := Lib.hid ht4; clear ht4)))
    go_ret
    obtain ⟨hci, hf4⟩ := HC2.out.done HB3.out Hf3.out (idx + 2) _ Hm4.out Ht4.out Wf3.out Hmm.out Len3.out
    exact ⟨L3, _, _, v3, rfl, G1.out.trans (G2.out.trans G3.out), I3.out, hci, Hfa.out.trans ((Fr.drew0 Hf1.out).trans (Hf2.out.trans hf4)), Hkeys.out⟩
end Go.Proofs.Ytkppcibffbnhoaa
