/-
  Walks: the node of the reference's ways.
-/
import Derived.Test.YtkppcibffbnhoaaK1
namespace Go.Proofs.Ytkppcibffbnhoaa
open Go.RowKit
set_option maxRecDepth 100000

theorem ic_app1 (xs ys : List Int) : ic (xs ++ ys) = ic xs ++ ic ys := by simp [ic]
theorem IS.rc' {w : World} {p : Option Addr} {n c : Nat} {xs : List Int} (h : IS w (.slice p n c) xs) : RC w 1 p xs.length (ic xs) := by
  obtain ⟨p', c', e, -, h⟩ := h
  cases e; exact h

set_option maxHeartbeats 32000000 in
theorem ways_node (a o cap : Nat) (r : Int) (L : List T) (p1 p2 : Option Addr) (c1 c2 : Nat) (pos neg : List Int) (l : Nat) (H K : T) (w : World) (hNS : NS w (some ⟨a, o, none⟩) (nodes L)) (wf : Wf L) (i1 : I3 w (.slice p1 pos.length c1) pos) (i2 : I3 w (.slice p2 neg.length c2) neg)
    (lp : pos.length ≤ 1000) (ln : neg.length ≤ 1000) (lw1 : (waysT H (pos ++ [(l : Int)]) neg).length ≤ 100000) (lw2 : (waysT K pos (neg ++ [(l : Int)])).length ≤ 100000) (iN : T.n l H K ∈ L) (hL : L.length ≤ 100000)
    (ihh : ∀ (v1' : Value) (w' : World), NS w' (some ⟨a, o, none⟩) (nodes L) → I3 w' v1' (pos ++ [(l : Int)]) → I3 w' (.slice p2 neg.length c2) neg → Calls Try.prog 46 #[(.agg #[.slice (some ⟨a, o, none⟩) (nodes L).length cap, .int .i64 r]), .int .i64 (ref L H), v1', .slice p2 neg.length c2] w' (RW (waysT H (pos ++ [(l : Int)]) neg) w'))
    (ihk : ∀ (v2' : Value) (w' : World), NS w' (some ⟨a, o, none⟩) (nodes L) → I3 w' (.slice p1 pos.length c1) pos → I3 w' v2' (neg ++ [(l : Int)]) → Calls Try.prog 46 #[(.agg #[.slice (some ⟨a, o, none⟩) (nodes L).length cap, .int .i64 r]), .int .i64 (ref L K), .slice p1 pos.length c1, v2'] w' (RW (waysT K pos (neg ++ [(l : Int)])) w')) :
    Calls Try.prog 46 #[(.agg #[.slice (some ⟨a, o, none⟩) (nodes L).length cap, .int .i64 r]), .int .i64 (ref L (.n l H K)), .slice p1 pos.length c1, .slice p2 neg.length c2] w (RW (waysT (.n l H K) pos neg) w) := by
  obtain ⟨hidx, hnode⟩ := nodes_at iN
  obtain ⟨a', o', hnp, haZ, x0, x1, x2⟩ := hNS _ hidx
  cases hnp
  simp only [hnode] at x0 x1 x2
  have hrt : ref L (T.n l H K) = L.idxOf (T.n l H K) + 2 := rfl
  rw [hrt]
  have hll := nodes_length L
  have hl12 := lit_lt (wf.ok _ iN)
  generalize L.idxOf (T.n l H K) = idx at *
  generalize ref L H = rh at *
  generalize ref L K = rk at *
  have hnl : (nodes L).length ≤ 100000 := by omega
  clear hll hnode hrt iN hL
  have hi2 : ((idx + 2 : Nat) : Int) = (idx : Int) + 2 := by simp
  rw [hi2]
  clear hi2
  have f0 : ((idx : Int) + 2 == 0) = false := by simp; omega
  have f1 : ((idx : Int) + 2 == 1) = false := by simp; omega
  have hA : Below w.heap.size w (w.alloc (.cells #[.slice (some ⟨a, o, none⟩) (nodes L).length cap, .int .i64 r] 24)) := (Below.refl _ _).alloc (Nat.le_refl _) _
  have hnA := heap_alloc_new w (.cells #[.slice (some ⟨a, o, none⟩) (nodes L).length cap, .int .i64 r] 24)
  have HNS := Lib.hid (hNS.below hA); have I1 := Lib.hid (i1.below hA); have I2 := Lib.hid (i2.below hA); have Ihh := Lib.hid ihh; have Ihk := Lib.hid ihk
  have Lw1 := Lib.hid lw1; have Lw2 := Lib.hid lw2
  have haA := Nat.lt_of_lt_of_le haZ hA.size
  have y0 := (hA.cell (p := ⟨a, _, none⟩) haZ).trans x0
  have y1 := (hA.cell (p := ⟨a, _, none⟩) haZ).trans x1
  have y2 := (hA.cell (p := ⟨a, _, none⟩) haZ).trans x2
  have HA := Lib.hid hA
  clear hNS i1 i2 ihh ihk x0 x1 x2 haZ lw1 lw2 hA
  go_enter Try.func46, Try.ntmps46
  go_upto_region 1 with fail
  generalize w.alloc (.cells #[.slice (some ⟨a, o, none⟩) (nodes L).length cap, .int .i64 r] 24) = wA at *
  obtain ⟨d0, d1, -⟩ := cells2 hnA
  have HnA := Lib.hid hnA; clear hnA
  go_upto_region 6 with fail
  have hal : Below wA.heap.size wA (wA.alloc (.cells #[.int .i64 l, .int .i64 rh, .int .i64 rk] 32)) := (Below.refl _ _).alloc (Nat.le_refl _) _
  have hnew := heap_alloc_new wA (.cells #[.int .i64 l, .int .i64 rh, .int .i64 rk] 32)
  have N9 := Lib.hid hnew
  have NA := Lib.hid ((hal.block _ (heap_lt HnA.out)).trans HnA.out)
  have I1b := Lib.hid (I1.out.below hal); have I2b := Lib.hid (I2.out.below hal); have NSb := Lib.hid (HNS.out.below hal); have Bb := Lib.hid (HA.out.step hal)
  clear hal hnew HnA I1 I2 HNS HA y0 y1 y2 d0 d1 haA
  generalize wA.alloc (.cells #[.int .i64 l, .int .i64 rh, .int .i64 rk] 32) = wb at *
  obtain ⟨J, hJd⟩ : ∃ J : (Nat → Prop) → Act → World → Prop, J = fun (D : Nat → Prop) (ac : Act) (w' : World) => ∃ (f : Nat → Nat) (s26 s27 s28 s29 s30 s31 s10 s1 s12 s14 s20 s21 s22 s23 s24 s25 : Value), ac = ⟨((.agg #[.slice (some ⟨a, o, none⟩) (nodes L).length cap, .int .i64 r]) :: s1 :: (.slice p1 pos.length c1) :: (.slice p2 neg.length c2) :: (.pointer (some ⟨w.heap.size, 0, none⟩)) :: undef :: undef :: undef :: (.slice none 0 0) :: (.pointer (some ⟨wA.heap.size, 0, none⟩)) :: s10 :: undef :: s12 :: (.bool false) :: s14 :: (.bool false) :: undef :: undef :: undef :: undef :: s20 :: s21 :: s22 :: s23 :: s24 :: s25 :: s26 :: s27 :: s28 :: s29 :: s30 :: s31 :: undef :: undef :: undef :: undef :: undef :: undef :: undef :: undef :: undef :: undef :: undef :: undef :: undef :: undef :: undef :: undef :: undef :: undef :: undef :: undef :: []).toArray, []⟩ ∧ Below wb.heap.size wb w' ∧ (D 0 → s26 = (.slice p1 pos.length c1)) ∧ (D 1 → (D 5 ∨ w'.ownsRow wb.heap.size 3 1 s27 pos.length (ic pos))) ∧ (D 2 → s28 = (.pointer (some ⟨wA.heap.size, 0, none⟩))) ∧ (D 3 → s29 = (.int .i64 (l : Int))) ∧ (D 4 → (D 5 ∨ ∃ g, s30 = .slice (some ⟨g, 0, none⟩) 1 1 ∧ w'.heap[g]? = some (.cells #[.int .i64 (l : Int)] 3))) ∧ (D 5 → w'.ownsRow wb.heap.size 3 1 s31 (pos ++ [(l : Int)]).length (ic (pos ++ [(l : Int)]))) ∧ (D 6 → s10 = s31) ∧ (D 1 → D 0) ∧ (D 3 → D 2) ∧ (D 4 → D 3) ∧ (D 5 → D 1) ∧ (D 5 → D 4) ∧ (D 6 → D 5) := ⟨_, rfl⟩
  have HJ := Lib.hid hJd; clear hJd
  refine Inv.wp_region_inv J (by kernel_rfl) (by decide +kernel) ?_ ?_ ?_
  · rw [HJ.out]
    exact ⟨fun _ => 0, _, _, _, _, _, _, _, _, _, _, _, _, _, _, _, _, rfl, (Below.refl _ _).drew, fun h => h.elim, fun h => h.elim, fun h => h.elim, fun h => h.elim, fun h => h.elim, fun h => h.elim, fun h => h.elim, fun h => h.elim, fun h => h.elim, fun h => h.elim, fun h => h.elim, fun h => h.elim, fun h => h.elim⟩
  · intro i op hi D ac w' hD hA hJ
    rw [HJ.out] at hJ
    obtain ⟨f, s26, s27, s28, s29, s30, s31, s10, s1, s12, s14, s20, s21, s22, s23, s24, s25, rfl, hb, h0, h1, h2, h3, h4, h5, h6, g1_0, g3_2, g4_3, g5_1, g5_4, g6_5⟩ := hJ
    match i, hi, hA with
    | 0, hi, hA =>
      obtain rfl := Option.some.inj hi
      clear hi
      clear hA
      have H0 := Lib.hid h0; have H1 := Lib.hid h1; have H2 := Lib.hid h2; have H3 := Lib.hid h3; have H4 := Lib.hid h4; have H5 := Lib.hid h5; have H6 := Lib.hid h6; have Hb := Lib.hid hb; have HD := Lib.hid hD; clear hb hD h0 h1 h2 h3 h4 h5 h6
      go_wp2
      rw [HJ.out]
      exact ⟨f, _, _, _, _, _, _, _, _, _, _, _, _, _, _, _, _, rfl, Hb.out, fun _ => rfl, fun h => ((H1.out (h.resolve_right (by decide)))).imp .inl id, fun h => (H2.out (h.resolve_right (by decide))), fun h => (H3.out (h.resolve_right (by decide))), fun h => ((H4.out (h.resolve_right (by decide)))).imp .inl id, fun h => (H5.out (h.resolve_right (by decide))), fun h => (H6.out (h.resolve_right (by decide))), fun _ => .inr rfl, fun h => .inl (g3_2 (h.resolve_right (by decide))), fun h => .inl (g4_3 (h.resolve_right (by decide))), fun h => .inl (g5_1 (h.resolve_right (by decide))), fun h => .inl (g5_4 (h.resolve_right (by decide))), fun h => .inl (g6_5 (h.resolve_right (by decide)))⟩
    | 1, hi, hA =>
      obtain rfl := Option.some.inj hi
      clear hi
      have d0 := after_of hA 0 (by decide +kernel)
      clear hA
      obtain rfl := h0 d0
      have hrc := ((I1b.out.below hb).is.rc')
      have Hrc := Lib.hid hrc; have hbz := hb.size; have Hbz := Lib.hid hbz; clear hrc hbz
      have H0 := Lib.hid h0; have H1 := Lib.hid h1; have H2 := Lib.hid h2; have H3 := Lib.hid h3; have H4 := Lib.hid h4; have H5 := Lib.hid h5; have H6 := Lib.hid h6; have Hb := Lib.hid hb; have HD := Lib.hid hD; clear hb hD h0 h1 h2 h3 h4 h5 h6
      go_wp2_with (at_builtin; go_loud (refine wpList_append_ownrc rfl (.const (.slice none 0 0)) (.tmp 26) 44 rfl 3 (by kernel_rfl) int_info rfl (by decide) (by decide) wb.heap.size _ p1 0 pos.length c1 [] (ic pos) Hbz.out (.slice none 0 0) rfl rfl (World.ownsRow_nil _ _ _ _) Hrc.out (ic_one _) (by omega) ?_); intro v3 w3 ho3 hf3; have Ho3 := Lib.hid ho3; have Hq := Lib.hid (hf3.below (Nat.le_refl _) (by simp) (by simp [Value.ownBlock])); clear ho3 hf3)
      rw [HJ.out]
      exact ⟨fu f w'.heap.size 1, _, _, _, _, _, _, _, _, _, _, _, _, _, _, _, _, rfl, Hb.out.trans (Hq.out.mono Hb.out.size), fun _ => rfl, fun _ => (.inr (by simpa using Ho3.out)), fun h => (H2.out (h.resolve_right (by decide))), fun h => (H3.out (h.resolve_right (by decide))), fun h => ((H4.out (h.resolve_right (by decide)))).imp .inl fun ⟨g, e1, e2⟩ => ⟨g, e1, (Hq.out.block _ (heap_lt e2)).trans e2⟩, fun h => ownsRow_below (H5.out (h.resolve_right (by decide))) Hq.out (Nat.le_refl _), fun h => (H6.out (h.resolve_right (by decide))), fun _ => .inl d0, fun h => .inl (g3_2 (h.resolve_right (by decide))), fun h => .inl (g4_3 (h.resolve_right (by decide))), fun _ => .inr rfl, fun h => .inl (g5_4 (h.resolve_right (by decide))), fun h => .inl (g6_5 (h.resolve_right (by decide)))⟩
    | 2, hi, hA =>
      obtain rfl := Option.some.inj hi
      clear hi
      clear hA
      have H0 := Lib.hid h0; have H1 := Lib.hid h1; have H2 := Lib.hid h2; have H3 := Lib.hid h3; have H4 := Lib.hid h4; have H5 := Lib.hid h5; have H6 := Lib.hid h6; have Hb := Lib.hid hb; have HD := Lib.hid hD; clear hb hD h0 h1 h2 h3 h4 h5 h6
      go_wp2
      rw [HJ.out]
      exact ⟨f, _, _, _, _, _, _, _, _, _, _, _, _, _, _, _, _, rfl, Hb.out, fun h => (H0.out (h.resolve_right (by decide))), fun h => ((H1.out (h.resolve_right (by decide)))).imp .inl id, fun _ => rfl, fun h => (H3.out (h.resolve_right (by decide))), fun h => ((H4.out (h.resolve_right (by decide)))).imp .inl id, fun h => (H5.out (h.resolve_right (by decide))), fun h => (H6.out (h.resolve_right (by decide))), fun h => .inl (g1_0 (h.resolve_right (by decide))), fun _ => .inr rfl, fun h => .inl (g4_3 (h.resolve_right (by decide))), fun h => .inl (g5_1 (h.resolve_right (by decide))), fun h => .inl (g5_4 (h.resolve_right (by decide))), fun h => .inl (g6_5 (h.resolve_right (by decide)))⟩
    | 3, hi, hA =>
      obtain rfl := Option.some.inj hi
      clear hi
      have d2 := after_of hA 2 (by decide +kernel)
      clear hA
      obtain rfl := h2 d2
      obtain ⟨c0, c1', c2'⟩ := cellsT ((hb.block _ (heap_lt N9.out)).trans N9.out)
      have H0 := Lib.hid h0; have H1 := Lib.hid h1; have H2 := Lib.hid h2; have H3 := Lib.hid h3; have H4 := Lib.hid h4; have H5 := Lib.hid h5; have H6 := Lib.hid h6; have Hb := Lib.hid hb; have HD := Lib.hid hD; clear hb hD h0 h1 h2 h3 h4 h5 h6
      go_wp2
      rw [HJ.out]
      exact ⟨f, _, _, _, _, _, _, _, _, _, _, _, _, _, _, _, _, rfl, Hb.out, fun h => (H0.out (h.resolve_right (by decide))), fun h => ((H1.out (h.resolve_right (by decide)))).imp .inl id, fun _ => rfl, fun _ => rfl, fun h => ((H4.out (h.resolve_right (by decide)))).imp .inl id, fun h => (H5.out (h.resolve_right (by decide))), fun h => (H6.out (h.resolve_right (by decide))), fun h => .inl (g1_0 (h.resolve_right (by decide))), fun _ => .inl d2, fun _ => .inr rfl, fun h => .inl (g5_1 (h.resolve_right (by decide))), fun h => .inl (g5_4 (h.resolve_right (by decide))), fun h => .inl (g6_5 (h.resolve_right (by decide)))⟩
    | 4, hi, hA =>
      obtain rfl := Option.some.inj hi
      clear hi
      have d3 := after_of hA 3 (by decide +kernel)
      clear hA
      obtain rfl := h3 d3
      have H0 := Lib.hid h0; have H1 := Lib.hid h1; have H2 := Lib.hid h2; have H3 := Lib.hid h3; have H4 := Lib.hid h4; have H5 := Lib.hid h5; have H6 := Lib.hid h6; have Hb := Lib.hid hb; have HD := Lib.hid hD; clear hb hD h0 h1 h2 h3 h4 h5 h6
      go_wp2
      have Hq := Lib.hid ((Below.refl w'.heap.size w').alloc (Nat.le_refl _) (.cells #[.int .i64 (l : Int)] 3))
      rw [HJ.out]
      exact ⟨fu f w'.heap.size 4, _, _, _, _, _, _, _, _, _, _, _, _, _, _, _, _, rfl, Hb.out.trans (Hq.out.mono Hb.out.size), fun h => (H0.out (h.resolve_right (by decide))), fun h => ((H1.out (h.resolve_right (by decide)))).imp .inl fun h5 => ownsRow_below h5 Hq.out (Nat.le_refl _), fun h => (H2.out (h.resolve_right (by decide))), fun _ => rfl, fun _ => (.inr ⟨_, rfl, heap_alloc_new _ _⟩), fun h => ownsRow_below (H5.out (h.resolve_right (by decide))) Hq.out (Nat.le_refl _), fun h => (H6.out (h.resolve_right (by decide))), fun h => .inl (g1_0 (h.resolve_right (by decide))), fun h => .inl (g3_2 (h.resolve_right (by decide))), fun _ => .inl d3, fun h => .inl (g5_1 (h.resolve_right (by decide))), fun _ => .inr rfl, fun h => .inl (g6_5 (h.resolve_right (by decide)))⟩
    | 5, hi, hA =>
      obtain rfl := Option.some.inj hi
      clear hi
      have d1 := after_of hA 1 (by decide +kernel)
      have d4 := after_of hA 4 (by decide +kernel)
      clear hA
      have ho := (h1 d1).resolve_left hD
      obtain ⟨g, rfl, hg⟩ := (h4 d4).resolve_left hD
      have hrc : RC w' 1 (some ⟨g, 0, none⟩) 1 (ic [(l : Int)]) := RC.row rfl hg (fun j u hu => by simpa [ic] using hu)
      have hbz := hb.size
      have Ho := Lib.hid ho; have Hrc := Lib.hid hrc; have Hbz := Lib.hid hbz; clear ho hg hrc hbz
      have H0 := Lib.hid h0; have H1 := Lib.hid h1; have H2 := Lib.hid h2; have H3 := Lib.hid h3; have H4 := Lib.hid h4; have H5 := Lib.hid h5; have H6 := Lib.hid h6; have Hb := Lib.hid hb; have HD := Lib.hid hD; clear hb hD h0 h1 h2 h3 h4 h5 h6
      go_wp2_with (at_builtin; go_loud (refine wpList_append_ownrc rfl (.tmp 27) (.tmp 30) 44 rfl 3 (by kernel_rfl) int_info rfl (by decide) (by decide) wb.heap.size _ (some ⟨g, 0, none⟩) pos.length 1 1 (ic pos) (ic [(l : Int)]) Hbz.out s27 rfl rfl Ho.out Hrc.out (ic_one _) (by omega) ?_); intro v3 w3 ho3 hf3; have Ho3 := Lib.hid ho3; have Hbo := Lib.hid (Hb.out.trans (hf3.below Hbz.out (by simp) (fun g5 hg5 => (Ho.out.lt g5 hg5).1))); clear ho3 hf3)
      rw [HJ.out]
      exact ⟨f, _, _, _, _, _, _, _, _, _, _, _, _, _, _, _, _, rfl, Hbo.out, fun h => (H0.out (h.resolve_right (by decide))), fun h => (.inl (.inr rfl)), fun h => (H2.out (h.resolve_right (by decide))), fun h => (H3.out (h.resolve_right (by decide))), fun h => (.inl (.inr rfl)), fun _ => (by have h9 := Ho3.out; rw [← ic_app1] at h9; simpa using h9), fun h => (HD.out (g6_5 (h.resolve_right (by decide)))).elim, fun h => .inl (g1_0 (h.resolve_right (by decide))), fun h => .inl (g3_2 (h.resolve_right (by decide))), fun h => .inl (g4_3 (h.resolve_right (by decide))), fun _ => .inl d1, fun _ => .inl d4, fun _ => .inr rfl⟩
    | 6, hi, hA =>
      obtain rfl := Option.some.inj hi
      clear hi
      have d5 := after_of hA 5 (by decide +kernel)
      clear hA
      have H0 := Lib.hid h0; have H1 := Lib.hid h1; have H2 := Lib.hid h2; have H3 := Lib.hid h3; have H4 := Lib.hid h4; have H5 := Lib.hid h5; have H6 := Lib.hid h6; have Hb := Lib.hid hb; have HD := Lib.hid hD; clear hb hD h0 h1 h2 h3 h4 h5 h6
      go_wp2
      rw [HJ.out]
      exact ⟨f, _, _, _, _, _, _, _, _, _, _, _, _, _, _, _, _, rfl, Hb.out, fun h => (H0.out (h.resolve_right (by decide))), fun h => ((H1.out (h.resolve_right (by decide)))).imp .inl id, fun h => (H2.out (h.resolve_right (by decide))), fun h => (H3.out (h.resolve_right (by decide))), fun h => ((H4.out (h.resolve_right (by decide)))).imp .inl id, fun h => (H5.out (h.resolve_right (by decide))), fun _ => rfl, fun h => .inl (g1_0 (h.resolve_right (by decide))), fun h => .inl (g3_2 (h.resolve_right (by decide))), fun h => .inl (g4_3 (h.resolve_right (by decide))), fun h => .inl (g5_1 (h.resolve_right (by decide))), fun h => .inl (g5_4 (h.resolve_right (by decide))), fun _ => .inl d5⟩
    | n + 7, hi, hA => cases hi
  · intro D ac w' hall hJ
    rw [HJ.out] at hJ
    obtain ⟨f, s26, s27, s28, s29, s30, s31, s10, s1, s12, s14, s20, s21, s22, s23, s24, s25, rfl, hb, h0, h1, h2, h3, h4, h5, h6, g1_0, g3_2, g4_3, g5_1, g5_4, g6_5⟩ := hJ
    have hd : ∀ i, i < 7 → D i := hall
    clear hall
    have ho := h5 (hd 5 (by decide))
    obtain rfl := h6 (hd 6 (by decide))
    have Ho6 := Lib.hid (I3.own ho rfl)
    have I16 := Lib.hid (I1b.out.below hb); have I26 := Lib.hid (I2b.out.below hb); have NS6 := Lib.hid (NSb.out.below hb); have B6 := Lib.hid (Bb.out.step hb)
    have N96 := Lib.hid ((hb.block _ (heap_lt N9.out)).trans N9.out); have NA6 := Lib.hid ((hb.block _ (heap_lt NA.out)).trans NA.out)
    clear HJ J hd h0 h1 h2 h3 h4 h5 h6 ho hb N9 NA I1b I2b NSb Bb
    have hK : ∀ {K : Act → World → Prop} {Q : Exit → Act → World → Prop} {a : Act} {w : World}, K a w → Exit.then K Q .normal a w := fun h => h
    refine hK ?_
    generalize w' = w6 at *
    obtain ⟨e0, e1, e2⟩ := cellsT N96.out
    obtain ⟨d0, d1, -⟩ := cells2 NA6.out
    go_upto_region 8 with (go_at_call 46; refine (Ihh.out _ _ NS6.out Ho6.out I26.out).mono ?_; rintro e w7 ⟨VP1, vo1, rfl, ho1, hv1, q1⟩; have Ho1 := Lib.hid ho1; have Hv1 := Lib.hid hv1; have Q1 := Lib.hid q1; clear ho1 hv1 q1)
    have I17 := Lib.hid (I16.out.below Q1.out); have I27 := Lib.hid (I26.out.below Q1.out); have NS7 := Lib.hid (NS6.out.below Q1.out); have B7 := Lib.hid (B6.out.step Q1.out)
    have N97 := Lib.hid ((Q1.out.block _ (heap_lt N96.out)).trans N96.out); have NA7 := Lib.hid ((Q1.out.block _ (heap_lt NA6.out)).trans NA6.out)
    have Ho7 := Lib.hid (ownsRow_lower Ho1.out B6.out.size)
    clear e0 e1 e2 d0 d1 Ho6 I16 I26 NS6 B6 N96 NA6 Q1 Ho1
    obtain ⟨J, hJd⟩ : ∃ J : (Nat → Prop) → Act → World → Prop, J = fun (D : Nat → Prop) (ac : Act) (w' : World) => ∃ (f : Nat → Nat) (s38 s39 s40 s41 s42 s43 s10 s1 s12 s14 s20 s21 s22 s23 s24 s25 s26 s27 s28 s29 s30 s31 s32 s33 s34 s35 s36 s37 : Value), ac = ⟨((.agg #[.slice (some ⟨a, o, none⟩) (nodes L).length cap, .int .i64 r]) :: s1 :: (.slice p1 pos.length c1) :: (.slice p2 neg.length c2) :: (.pointer (some ⟨w.heap.size, 0, none⟩)) :: undef :: undef :: undef :: (.slice none 0 0) :: (.pointer (some ⟨wA.heap.size, 0, none⟩)) :: s10 :: vo1 :: s12 :: (.bool false) :: s14 :: (.bool false) :: undef :: undef :: undef :: undef :: s20 :: s21 :: s22 :: s23 :: s24 :: s25 :: s26 :: s27 :: s28 :: s29 :: s30 :: s31 :: s32 :: s33 :: s34 :: s35 :: s36 :: s37 :: s38 :: s39 :: s40 :: s41 :: s42 :: s43 :: undef :: undef :: undef :: undef :: undef :: undef :: undef :: undef :: []).toArray, []⟩ ∧ Below w7.heap.size w7 w' ∧ (D 0 → s38 = (.slice p2 neg.length c2)) ∧ (D 1 → (D 5 ∨ w'.ownsRow w7.heap.size 3 1 s39 neg.length (ic neg))) ∧ (D 2 → s40 = (.pointer (some ⟨wA.heap.size, 0, none⟩))) ∧ (D 3 → s41 = (.int .i64 (l : Int))) ∧ (D 4 → (D 5 ∨ ∃ g, s42 = .slice (some ⟨g, 0, none⟩) 1 1 ∧ w'.heap[g]? = some (.cells #[.int .i64 (l : Int)] 3))) ∧ (D 5 → w'.ownsRow w7.heap.size 3 1 s43 (neg ++ [(l : Int)]).length (ic (neg ++ [(l : Int)]))) ∧ (D 6 → s10 = s43) ∧ (D 1 → D 0) ∧ (D 3 → D 2) ∧ (D 4 → D 3) ∧ (D 5 → D 1) ∧ (D 5 → D 4) ∧ (D 6 → D 5) := ⟨_, rfl⟩
    have HJ := Lib.hid hJd; clear hJd
    refine Inv.wp_region_inv J (by kernel_rfl) (by decide +kernel) ?_ ?_ ?_
    · rw [HJ.out]
      exact ⟨fun _ => 0, _, _, _, _, _, _, _, _, _, _, _, _, _, _, _, _, _, _, _, _, _, _, _, _, _, _, _, _, rfl, (Below.refl _ _).drew, fun h => h.elim, fun h => h.elim, fun h => h.elim, fun h => h.elim, fun h => h.elim, fun h => h.elim, fun h => h.elim, fun h => h.elim, fun h => h.elim, fun h => h.elim, fun h => h.elim, fun h => h.elim, fun h => h.elim⟩
    · intro i op hi D ac w' hD hA hJ
      rw [HJ.out] at hJ
      obtain ⟨f, s38, s39, s40, s41, s42, s43, s10, s1, s12, s14, s20, s21, s22, s23, s24, s25, s26, s27, s28, s29, s30, s31, s32, s33, s34, s35, s36, s37, rfl, hb, h0, h1, h2, h3, h4, h5, h6, g1_0, g3_2, g4_3, g5_1, g5_4, g6_5⟩ := hJ
      match i, hi, hA with
      | 0, hi, hA =>
        obtain rfl := Option.some.inj hi
        clear hi
        clear hA
        have H0 := Lib.hid h0; have H1 := Lib.hid h1; have H2 := Lib.hid h2; have H3 := Lib.hid h3; have H4 := Lib.hid h4; have H5 := Lib.hid h5; have H6 := Lib.hid h6; have Hb := Lib.hid hb; have HD := Lib.hid hD; clear hb hD h0 h1 h2 h3 h4 h5 h6
        go_wp2
        rw [HJ.out]
        exact ⟨f, _, _, _, _, _, _, _, _, _, _, _, _, _, _, _, _, _, _, _, _, _, _, _, _, _, _, _, _, rfl, Hb.out, fun _ => rfl, fun h => ((H1.out (h.resolve_right (by decide)))).imp .inl id, fun h => (H2.out (h.resolve_right (by decide))), fun h => (H3.out (h.resolve_right (by decide))), fun h => ((H4.out (h.resolve_right (by decide)))).imp .inl id, fun h => (H5.out (h.resolve_right (by decide))), fun h => (H6.out (h.resolve_right (by decide))), fun _ => .inr rfl, fun h => .inl (g3_2 (h.resolve_right (by decide))), fun h => .inl (g4_3 (h.resolve_right (by decide))), fun h => .inl (g5_1 (h.resolve_right (by decide))), fun h => .inl (g5_4 (h.resolve_right (by decide))), fun h => .inl (g6_5 (h.resolve_right (by decide)))⟩
      | 1, hi, hA =>
        obtain rfl := Option.some.inj hi
        clear hi
        have d0 := after_of hA 0 (by decide +kernel)
        clear hA
        obtain rfl := h0 d0
        have hrc := ((I27.out.below hb).is.rc')
        have Hrc := Lib.hid hrc; have hbz := hb.size; have Hbz := Lib.hid hbz; clear hrc hbz
        have H0 := Lib.hid h0; have H1 := Lib.hid h1; have H2 := Lib.hid h2; have H3 := Lib.hid h3; have H4 := Lib.hid h4; have H5 := Lib.hid h5; have H6 := Lib.hid h6; have Hb := Lib.hid hb; have HD := Lib.hid hD; clear hb hD h0 h1 h2 h3 h4 h5 h6
        go_wp2_with (at_builtin; go_loud (refine wpList_append_ownrc rfl (.const (.slice none 0 0)) (.tmp 38) 44 rfl 3 (by kernel_rfl) int_info rfl (by decide) (by decide) w7.heap.size _ p2 0 neg.length c2 [] (ic neg) Hbz.out (.slice none 0 0) rfl rfl (World.ownsRow_nil _ _ _ _) Hrc.out (ic_one _) (by omega) ?_); intro v3 w3 ho3 hf3; have Ho3 := Lib.hid ho3; have Hq := Lib.hid (hf3.below (Nat.le_refl _) (by simp) (by simp [Value.ownBlock])); clear ho3 hf3)
        rw [HJ.out]
        exact ⟨fu f w'.heap.size 1, _, _, _, _, _, _, _, _, _, _, _, _, _, _, _, _, _, _, _, _, _, _, _, _, _, _, _, _, rfl, Hb.out.trans (Hq.out.mono Hb.out.size), fun _ => rfl, fun _ => (.inr (by simpa using Ho3.out)), fun h => (H2.out (h.resolve_right (by decide))), fun h => (H3.out (h.resolve_right (by decide))), fun h => ((H4.out (h.resolve_right (by decide)))).imp .inl fun ⟨g, e1, e2⟩ => ⟨g, e1, (Hq.out.block _ (heap_lt e2)).trans e2⟩, fun h => ownsRow_below (H5.out (h.resolve_right (by decide))) Hq.out (Nat.le_refl _), fun h => (H6.out (h.resolve_right (by decide))), fun _ => .inl d0, fun h => .inl (g3_2 (h.resolve_right (by decide))), fun h => .inl (g4_3 (h.resolve_right (by decide))), fun _ => .inr rfl, fun h => .inl (g5_4 (h.resolve_right (by decide))), fun h => .inl (g6_5 (h.resolve_right (by decide)))⟩
      | 2, hi, hA =>
        obtain rfl := Option.some.inj hi
        clear hi
        clear hA
        have H0 := Lib.hid h0; have H1 := Lib.hid h1; have H2 := Lib.hid h2; have H3 := Lib.hid h3; have H4 := Lib.hid h4; have H5 := Lib.hid h5; have H6 := Lib.hid h6; have Hb := Lib.hid hb; have HD := Lib.hid hD; clear hb hD h0 h1 h2 h3 h4 h5 h6
        go_wp2
        rw [HJ.out]
        exact ⟨f, _, _, _, _, _, _, _, _, _, _, _, _, _, _, _, _, _, _, _, _, _, _, _, _, _, _, _, _, rfl, Hb.out, fun h => (H0.out (h.resolve_right (by decide))), fun h => ((H1.out (h.resolve_right (by decide)))).imp .inl id, fun _ => rfl, fun h => (H3.out (h.resolve_right (by decide))), fun h => ((H4.out (h.resolve_right (by decide)))).imp .inl id, fun h => (H5.out (h.resolve_right (by decide))), fun h => (H6.out (h.resolve_right (by decide))), fun h => .inl (g1_0 (h.resolve_right (by decide))), fun _ => .inr rfl, fun h => .inl (g4_3 (h.resolve_right (by decide))), fun h => .inl (g5_1 (h.resolve_right (by decide))), fun h => .inl (g5_4 (h.resolve_right (by decide))), fun h => .inl (g6_5 (h.resolve_right (by decide)))⟩
      | 3, hi, hA =>
        obtain rfl := Option.some.inj hi
        clear hi
        have d2 := after_of hA 2 (by decide +kernel)
        clear hA
        obtain rfl := h2 d2
        obtain ⟨c0, c1', c2'⟩ := cellsT ((hb.block _ (heap_lt N97.out)).trans N97.out)
        have H0 := Lib.hid h0; have H1 := Lib.hid h1; have H2 := Lib.hid h2; have H3 := Lib.hid h3; have H4 := Lib.hid h4; have H5 := Lib.hid h5; have H6 := Lib.hid h6; have Hb := Lib.hid hb; have HD := Lib.hid hD; clear hb hD h0 h1 h2 h3 h4 h5 h6
        go_wp2
        rw [HJ.out]
        exact ⟨f, _, _, _, _, _, _, _, _, _, _, _, _, _, _, _, _, _, _, _, _, _, _, _, _, _, _, _, _, rfl, Hb.out, fun h => (H0.out (h.resolve_right (by decide))), fun h => ((H1.out (h.resolve_right (by decide)))).imp .inl id, fun _ => rfl, fun _ => rfl, fun h => ((H4.out (h.resolve_right (by decide)))).imp .inl id, fun h => (H5.out (h.resolve_right (by decide))), fun h => (H6.out (h.resolve_right (by decide))), fun h => .inl (g1_0 (h.resolve_right (by decide))), fun _ => .inl d2, fun _ => .inr rfl, fun h => .inl (g5_1 (h.resolve_right (by decide))), fun h => .inl (g5_4 (h.resolve_right (by decide))), fun h => .inl (g6_5 (h.resolve_right (by decide)))⟩
      | 4, hi, hA =>
        obtain rfl := Option.some.inj hi
        clear hi
        have d3 := after_of hA 3 (by decide +kernel)
        clear hA
        obtain rfl := h3 d3
        have H0 := Lib.hid h0; have H1 := Lib.hid h1; have H2 := Lib.hid h2; have H3 := Lib.hid h3; have H4 := Lib.hid h4; have H5 := Lib.hid h5; have H6 := Lib.hid h6; have Hb := Lib.hid hb; have HD := Lib.hid hD; clear hb hD h0 h1 h2 h3 h4 h5 h6
        go_wp2
        have Hq := Lib.hid ((Below.refl w'.heap.size w').alloc (Nat.le_refl _) (.cells #[.int .i64 (l : Int)] 3))
        rw [HJ.out]
        exact ⟨fu f w'.heap.size 4, _, _, _, _, _, _, _, _, _, _, _, _, _, _, _, _, _, _, _, _, _, _, _, _, _, _, _, _, rfl, Hb.out.trans (Hq.out.mono Hb.out.size), fun h => (H0.out (h.resolve_right (by decide))), fun h => ((H1.out (h.resolve_right (by decide)))).imp .inl fun h5 => ownsRow_below h5 Hq.out (Nat.le_refl _), fun h => (H2.out (h.resolve_right (by decide))), fun _ => rfl, fun _ => (.inr ⟨_, rfl, heap_alloc_new _ _⟩), fun h => ownsRow_below (H5.out (h.resolve_right (by decide))) Hq.out (Nat.le_refl _), fun h => (H6.out (h.resolve_right (by decide))), fun h => .inl (g1_0 (h.resolve_right (by decide))), fun h => .inl (g3_2 (h.resolve_right (by decide))), fun _ => .inl d3, fun h => .inl (g5_1 (h.resolve_right (by decide))), fun _ => .inr rfl, fun h => .inl (g6_5 (h.resolve_right (by decide)))⟩
      | 5, hi, hA =>
        obtain rfl := Option.some.inj hi
        clear hi
        have d1 := after_of hA 1 (by decide +kernel)
        have d4 := after_of hA 4 (by decide +kernel)
        clear hA
        have ho := (h1 d1).resolve_left hD
        obtain ⟨g, rfl, hg⟩ := (h4 d4).resolve_left hD
        have hrc : RC w' 1 (some ⟨g, 0, none⟩) 1 (ic [(l : Int)]) := RC.row rfl hg (fun j u hu => by simpa [ic] using hu)
        have hbz := hb.size
        have Ho := Lib.hid ho; have Hrc := Lib.hid hrc; have Hbz := Lib.hid hbz; clear ho hg hrc hbz
        have H0 := Lib.hid h0; have H1 := Lib.hid h1; have H2 := Lib.hid h2; have H3 := Lib.hid h3; have H4 := Lib.hid h4; have H5 := Lib.hid h5; have H6 := Lib.hid h6; have Hb := Lib.hid hb; have HD := Lib.hid hD; clear hb hD h0 h1 h2 h3 h4 h5 h6
        go_wp2_with (at_builtin; go_loud (refine wpList_append_ownrc rfl (.tmp 39) (.tmp 42) 44 rfl 3 (by kernel_rfl) int_info rfl (by decide) (by decide) w7.heap.size _ (some ⟨g, 0, none⟩) neg.length 1 1 (ic neg) (ic [(l : Int)]) Hbz.out s39 rfl rfl Ho.out Hrc.out (ic_one _) (by omega) ?_); intro v3 w3 ho3 hf3; have Ho3 := Lib.hid ho3; have Hbo := Lib.hid (Hb.out.trans (hf3.below Hbz.out (by simp) (fun g5 hg5 => (Ho.out.lt g5 hg5).1))); clear ho3 hf3)
        rw [HJ.out]
        exact ⟨f, _, _, _, _, _, _, _, _, _, _, _, _, _, _, _, _, _, _, _, _, _, _, _, _, _, _, _, _, rfl, Hbo.out, fun h => (H0.out (h.resolve_right (by decide))), fun h => (.inl (.inr rfl)), fun h => (H2.out (h.resolve_right (by decide))), fun h => (H3.out (h.resolve_right (by decide))), fun h => (.inl (.inr rfl)), fun _ => (by have h9 := Ho3.out; rw [← ic_app1] at h9; simpa using h9), fun h => (HD.out (g6_5 (h.resolve_right (by decide)))).elim, fun h => .inl (g1_0 (h.resolve_right (by decide))), fun h => .inl (g3_2 (h.resolve_right (by decide))), fun h => .inl (g4_3 (h.resolve_right (by decide))), fun _ => .inl d1, fun _ => .inl d4, fun _ => .inr rfl⟩
      | 6, hi, hA =>
        obtain rfl := Option.some.inj hi
        clear hi
        have d5 := after_of hA 5 (by decide +kernel)
        clear hA
        have H0 := Lib.hid h0; have H1 := Lib.hid h1; have H2 := Lib.hid h2; have H3 := Lib.hid h3; have H4 := Lib.hid h4; have H5 := Lib.hid h5; have H6 := Lib.hid h6; have Hb := Lib.hid hb; have HD := Lib.hid hD; clear hb hD h0 h1 h2 h3 h4 h5 h6
        go_wp2
        rw [HJ.out]
        exact ⟨f, _, _, _, _, _, _, _, _, _, _, _, _, _, _, _, _, _, _, _, _, _, _, _, _, _, _, _, _, rfl, Hb.out, fun h => (H0.out (h.resolve_right (by decide))), fun h => ((H1.out (h.resolve_right (by decide)))).imp .inl id, fun h => (H2.out (h.resolve_right (by decide))), fun h => (H3.out (h.resolve_right (by decide))), fun h => ((H4.out (h.resolve_right (by decide)))).imp .inl id, fun h => (H5.out (h.resolve_right (by decide))), fun _ => rfl, fun h => .inl (g1_0 (h.resolve_right (by decide))), fun h => .inl (g3_2 (h.resolve_right (by decide))), fun h => .inl (g4_3 (h.resolve_right (by decide))), fun h => .inl (g5_1 (h.resolve_right (by decide))), fun h => .inl (g5_4 (h.resolve_right (by decide))), fun _ => .inl d5⟩
      | n + 7, hi, hA => cases hi
    · intro D ac w' hall hJ
      rw [HJ.out] at hJ
      obtain ⟨f, s38, s39, s40, s41, s42, s43, s10, s1, s12, s14, s20, s21, s22, s23, s24, s25, s26, s27, s28, s29, s30, s31, s32, s33, s34, s35, s36, s37, rfl, hb, h0, h1, h2, h3, h4, h5, h6, g1_0, g3_2, g4_3, g5_1, g5_4, g6_5⟩ := hJ
      have hd : ∀ i, i < 7 → D i := hall
      clear hall
      have ho := h5 (hd 5 (by decide))
      obtain rfl := h6 (hd 6 (by decide))
      have Ho8 := Lib.hid (I3.own ho rfl)
      have I18 := Lib.hid (I17.out.below hb); have NS8 := Lib.hid (NS7.out.below hb); have B8 := Lib.hid (B7.out.step hb)
      have N98 := Lib.hid ((hb.block _ (heap_lt N97.out)).trans N97.out); have NA8 := Lib.hid ((hb.block _ (heap_lt NA7.out)).trans NA7.out)
      have Hr8 := Lib.hid (ownsRow_below Ho7.out hb (Nat.le_refl _)); have Hv8 := Lib.hid (Hv1.out.keep fun a arr ha => hb.block a (heap_lt ha))
      clear HJ J hd h0 h1 h2 h3 h4 h5 h6 ho hb N97 NA7 I17 I27 NS7 B7 Ho7 Hv1
      refine hK ?_
      generalize w' = w8 at *
      obtain ⟨e0, e1, e2⟩ := cellsT N98.out
      obtain ⟨d0, d1, -⟩ := cells2 NA8.out
      have Hl1 := Lib.hid Hv8.out.len
      go_wp2_with (first
        | (go_at_call 46; refine (Ihk.out _ _ NS8.out I18.out Ho8.out).mono ?_; rintro e w9 ⟨VP2, vo2, rfl, ho2, hv2, q2⟩; obtain ⟨pz, cz, rfl⟩ := own_slice ho2; have hrc := RC.of_own ho2; have Hrc := Lib.hid hrc; have Hv2 := Lib.hid hv2; have Q2 := Lib.hid q2; have Hb9 := Lib.hid (show w.heap.size ≤ w9.heap.size from Nat.le_trans B8.out.size q2.size); have Hlen := Lib.hid (show VP1.length + VP2.length ≤ 67108864 by (have a1 := Hl1.out; have a2 := hv2.len; have a3 := Lw1.out; have a4 := Lw2.out; omega)); clear ho2 hrc hv2 q2)
        | (at_builtin; go_loud (refine wpList_append_ownrc rfl (.tmp 44) (.tmp 50) 25 rfl 46 (by kernel_rfl) path_info rfl (by decide) (by decide) w.heap.size _ pz VP1.length VP2.length cz (pcs VP1) (pcs VP2) Hb9.out vo1 rfl rfl (ownsRow_below Hr8.out Q2.out (Nat.le_refl _)) Hrc.out (pcs_one Hv2.out) Hlen.out ?_); intro v3 w3 ho3 hf3; have Ho3 := Lib.hid ho3; have Hf3 := Lib.hid hf3; clear ho3 hf3))
      go_ret
      have hr9 := ownsRow_below Hr8.out Q2.out (Nat.le_refl _)
      have hkeep : ∀ (a : Nat) (arr : Array Value), w9.heap[a]? = some (.cells arr 3) → w3.heap[a]? = w9.heap[a]? := fun a arr ha => Hf3.out.block _ (heap_lt ha) (by simp) (own_ne' hr9 ha (by decide))
      refine ⟨VP1 ++ VP2, v3, rfl, ?_, ?_, ?_⟩
      · have h9 := Ho3.out
        rw [← pcs_app] at h9
        rw [List.length_append]; exact h9
      · exact ((Hv8.out.keep fun a arr ha => Q2.out.block a (heap_lt ha)).app Hv2.out).keep hkeep
      · exact B8.out.trans ((Q2.out.mono B8.out.size).trans (Hf3.out.below Hb9.out (by simp) (fun g hg => (hr9.lt g hg).1)))
end Go.Proofs.Ytkppcibffbnhoaa
