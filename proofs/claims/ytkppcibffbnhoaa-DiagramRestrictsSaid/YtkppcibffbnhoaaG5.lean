/-
  Walks: the closure of Paths, a node.
-/
import Derived.Test.YtkppcibffbnhoaaG4
import Derived.Test.YtkppcibffbnhoaaInv
namespace Go.Proofs.Ytkppcibffbnhoaa
open Go.RowKit
set_option maxRecDepth 100000

theorem after_of {D : Nat → Prop} {l : Array Edge} (hA : ∀ e ∈ l.toList, Region.binds .any e = true → D e.on) (m : Nat) (h : (l.toList.any fun e => Region.binds .any e && e.on == m) = true) : D m := by
  rw [List.any_eq_true] at h
  obtain ⟨e, he, h⟩ := h
  simp only [Bool.and_eq_true, beq_iff_eq] at h
  rw [← h.2]; exact hA e he h.1
/-- A slice of one integer. -/
def OneI (w : World) (v : Value) (l : Nat) : Prop := ∃ g, v = .slice (some ⟨g, 0, none⟩) 1 1 ∧ w.heap[g]? = some (.cells #[.int .i64 l] 3)
theorem OneI.below {w w' : World} {v : Value} {l : Nat} (h : OneI w v l) (hb : Below w.heap.size w w') : OneI w' v l := by
  obtain ⟨g, h1, h2⟩ := h; exact ⟨g, h1, (hb.block g (heap_lt h2)).trans h2⟩
theorem OneI.rc {w : World} {g l : Nat} (h : w.heap[g]? = some (.cells #[.int .i64 l] 3)) : RC w 1 (some ⟨g, 0, none⟩) 1 (ic [(l : Int)]) :=
  RC.row (e := 3) rfl h fun j u hu => by
    match j, hu with
    | 0, hu => simpa [ic] using hu
    | j + 1, hu => simp [ic] at hu
set_option maxHeartbeats 16000000 in
theorem paths_node (Z : Nat) (c : PB) (p : Option Addr) (cap r : Nat) (L : List T) (VP : List (Value × Value)) (ps : List IP) (v vp vn : Value) (pos neg : List Int) (l : Nat) (H K : T) (w : World) (h : PI Z c p cap r L VP ps v w) (hp : I3 w vp pos) (hn : I3 w vn neg)
    (lp : pos.length ≤ 1000) (ln : neg.length ≤ 1000) (iN : T.n l H K ∈ L) (hL : L.length ≤ 100000)
    (ihh : ∀ (vp' : Value) (w' : World), PI Z c p cap r L VP ps v w' → I3 w' vp' (pos ++ [(l : Int)]) → I3 w' vn neg → Calls Try.prog 43 #[.int .i64 (ref L H), vp', vn, .pointer (some ⟨c.ov, 0, none⟩), .pointer (some ⟨c.dv, 0, none⟩), .pointer (some ⟨c.wv, 0, none⟩)] w' (PR Z c p cap r L (waysT H (pos ++ [(l : Int)]) neg) ps v w'))
    (ihk : ∀ (VP' : List (Value × Value)) (v' vn' : Value) (w' : World), PI Z c p cap r L VP' (ps ++ waysT H (pos ++ [(l : Int)]) neg) v' w' → I3 w' vp pos → I3 w' vn' (neg ++ [(l : Int)]) → Calls Try.prog 43 #[.int .i64 (ref L K), vp, vn', .pointer (some ⟨c.ov, 0, none⟩), .pointer (some ⟨c.dv, 0, none⟩), .pointer (some ⟨c.wv, 0, none⟩)] w' (PR Z c p cap r L (waysT K pos (neg ++ [(l : Int)])) (ps ++ waysT H (pos ++ [(l : Int)]) neg) v' w')) :
    Calls Try.prog 43 #[.int .i64 (ref L (.n l H K)), vp, vn, .pointer (some ⟨c.ov, 0, none⟩), .pointer (some ⟨c.dv, 0, none⟩), .pointer (some ⟨c.wv, 0, none⟩)] w (PR Z c p cap r L (waysT (.n l H K) pos neg) ps v w) := by
  obtain ⟨hidx, hnode⟩ := nodes_at iN
  obtain ⟨a, o, hnp, haZ, x0, x1, x2⟩ := h.ns _ hidx
  simp only [hnode] at x0 x1 x2
  have hrt : ref L (T.n l H K) = L.idxOf (T.n l H K) + 2 := rfl
  rw [hrt]
  have hll := nodes_length L
  have hl12 := lit_lt (h.wf.ok _ iN)
  generalize L.idxOf (T.n l H K) = idx at *
  generalize ref L H = rh at *
  generalize ref L K = rk at *
  have hnl : (nodes L).length ≤ 100000 := by omega
  clear hll hnode hrt iN hL
  obtain ⟨bp, kp, rfl, hkp, hrp⟩ := id hp
  obtain ⟨bn, kn, rfl, hkn, hrn⟩ := id hn
  clear hrp hrn
  subst hnp
  obtain ⟨d0, d1, -⟩ := cells2 h.dv
  have hal : Below w.heap.size w (w.alloc (.cells #[.int .i64 l, .int .i64 rh, .int .i64 rk] 32)) := (Below.refl _ _).alloc (Nat.le_refl _) _
  have hnew := heap_alloc_new w (.cells #[.int .i64 l, .int .i64 rh, .int .i64 rk] 32)
  have hfin : ∀ VP' v' w', PI Z c (some ⟨a, o, none⟩) cap r L VP' ((ps ++ waysT H (pos ++ [(l : Int)]) neg) ++ waysT K pos (neg ++ [(l : Int)])) v' w' → Fr [c.ov] v v' w w' → PR Z c (some ⟨a, o, none⟩) cap r L (waysT (.n l H K) pos neg) ps v w (.returned (.tuple #[])) w' := fun VP' v' w' h1 h2 => ⟨VP', v', rfl, by rw [List.append_assoc] at h1; exact h1, h2⟩
  have hi2 : ((idx + 2 : Nat) : Int) = (idx : Int) + 2 := by simp
  rw [hi2]
  clear hi2
  have H0 := Lib.hid h; have HP := Lib.hid hp; have HN := Lib.hid hn; have HF := Lib.hid hfin; have Hal := Lib.hid hal; have Hnew := Lib.hid hnew
  have Ihh := Lib.hid ihh; have Ihk := Lib.hid ihk
  clear h hp hn hfin hal hnew ihh ihk
  have f0 : ((idx : Int) + 2 == 0) = false := by simp; omega
  have f1 : ((idx : Int) + 2 == 1) = false := by simp; omega
  go_enter Try.func43, Try.ntmps43
  go_upto_region 2 with fail
  have H1 := Lib.hid (H0.out.below Hal.out)
  have HP1 := Lib.hid (HP.out.below Hal.out); have HN1 := Lib.hid (HN.out.below Hal.out)
  have Hf1 := Lib.hid (Fr.of_below (S := [c.ov]) (v := v) Hal.out)
  have hob : ∀ g, v.ownBlock = some g → g < w.heap.size := fun g hg => (H0.out.own.lt g hg).2
  have hovl := heap_lt H0.out.ov
  clear d0 d1 x0 x1 x2 Hal
  generalize w.alloc (.cells #[.int .i64 l, .int .i64 rh, .int .i64 rk] 32) = wb at *
  have hnbl := heap_lt Hnew.out
  have hwl := heap_lt H1.out.wv
  obtain ⟨J, hJd⟩ : ∃ J : (Nat → Prop) → Act → World → Prop, J = fun (D : Nat → Prop) (ac : Act) (w' : World) => (D 10 → ∃ (s17 s18 s19 s20 s21 s22 s23 s24 s25 s26 s27 : Value), ac = ⟨((.int .i64 ((idx : Int) + 2)) :: (.slice bp pos.length kp) :: (.slice bn neg.length kn) :: (.pointer (some ⟨c.ov, 0, none⟩)) :: (.pointer (some ⟨c.dv, 0, none⟩)) :: (.pointer (some ⟨c.wv, 0, none⟩)) :: undef :: undef :: undef :: (.pointer (some ⟨w.heap.size, 0, none⟩)) :: (.int .i64 ((idx : Int) + 2)) :: (.pointer (some ⟨c.dv, 0, none⟩)) :: (.slice (some ⟨a, o, none⟩) (nodes L).length cap) :: (.int .i64 ((idx : Int) + 2)) :: (.int .i64 idx) :: (.pointer (some ⟨a, o + idx * 3, none⟩)) :: (.agg #[.int .i64 l, .int .i64 rh, .int .i64 rk]) :: s17 :: s18 :: s19 :: s20 :: s21 :: s22 :: s23 :: s24 :: s25 :: s26 :: s27 :: undef :: undef :: undef :: undef :: undef :: undef :: undef :: undef :: undef :: undef :: undef :: (.bool false) :: (.bool false) :: (.bool false) :: (.bool false) :: undef :: undef :: undef :: undef :: undef :: undef :: undef :: undef :: []).toArray, []⟩ ∧ (∀ k, k < 11 → D k) ∧ ∃ VP2 v2, PI Z c (some ⟨a, o, none⟩) cap r L VP2 (ps ++ waysT H (pos ++ [(l : Int)]) neg) v2 w' ∧ Fr [c.ov] v v2 wb w') ∧ (¬ D 10 → ∃ (s17 s18 s19 s20 s21 s22 s23 s24 s25 s26 s27 : Value), ac = ⟨((.int .i64 ((idx : Int) + 2)) :: (.slice bp pos.length kp) :: (.slice bn neg.length kn) :: (.pointer (some ⟨c.ov, 0, none⟩)) :: (.pointer (some ⟨c.dv, 0, none⟩)) :: (.pointer (some ⟨c.wv, 0, none⟩)) :: undef :: undef :: undef :: (.pointer (some ⟨w.heap.size, 0, none⟩)) :: (.int .i64 ((idx : Int) + 2)) :: (.pointer (some ⟨c.dv, 0, none⟩)) :: (.slice (some ⟨a, o, none⟩) (nodes L).length cap) :: (.int .i64 ((idx : Int) + 2)) :: (.int .i64 idx) :: (.pointer (some ⟨a, o + idx * 3, none⟩)) :: (.agg #[.int .i64 l, .int .i64 rh, .int .i64 rk]) :: s17 :: s18 :: s19 :: s20 :: s21 :: s22 :: s23 :: s24 :: s25 :: s26 :: s27 :: undef :: undef :: undef :: undef :: undef :: undef :: undef :: undef :: undef :: undef :: undef :: (.bool false) :: (.bool false) :: (.bool false) :: (.bool false) :: undef :: undef :: undef :: undef :: undef :: undef :: undef :: undef :: []).toArray, []⟩ ∧ Below wb.heap.size wb w' ∧ (D 0 → s17 = (.func (.func 43) #[] #[.pointer (some ⟨c.ov, 0, none⟩), .pointer (some ⟨c.dv, 0, none⟩), .pointer (some ⟨c.wv, 0, none⟩)])) ∧ (D 1 → s18 = (.pointer (some ⟨w.heap.size, 1, none⟩))) ∧ (D 2 → s19 = (.int .i64 rh)) ∧ (D 3 → s20 = (.slice bp pos.length kp)) ∧ (D 4 → s21 = (.slice bp pos.length pos.length)) ∧ (D 5 → s22 = (.pointer (some ⟨w.heap.size, 0, none⟩))) ∧ (D 6 → s23 = (.int .i64 l)) ∧ (D 7 → OneI w' s24 l) ∧ (D 8 → I3 w' s25 (pos ++ [(l : Int)])) ∧ (D 9 → s26 = (.slice bn neg.length kn)) ∧ (D 2 → D 1) ∧ (D 4 → D 3) ∧ (D 6 → D 5) ∧ (D 7 → D 6) ∧ (D 8 → D 4) ∧ (D 8 → D 7)) := ⟨_, rfl⟩
  have HJ := Lib.hid hJd; clear hJd
  refine Inv.wp_region_inv J (by kernel_rfl) (by decide +kernel) ?_ ?_ ?_
  · rw [HJ.out]
    exact ⟨fun h => h.elim, fun _ => ⟨_, _, _, _, _, _, _, _, _, _, _, rfl, (Below.refl _ _).drew, fun h => h.elim, fun h => h.elim, fun h => h.elim, fun h => h.elim, fun h => h.elim, fun h => h.elim, fun h => h.elim, fun h => h.elim, fun h => h.elim, fun h => h.elim, fun h => h.elim, fun h => h.elim, fun h => h.elim, fun h => h.elim, fun h => h.elim, fun h => h.elim⟩⟩
  · intro i op hi D ac w' hD hA hJ
    rw [HJ.out] at hJ
    skip
    match i, hi, hA with
    | 0, hi, hA =>
      obtain rfl := Option.some.inj hi
      clear hi
      by_cases hlast : D 10
      case pos =>
        exact absurd (hJ.1 hlast) (fun h => (by obtain ⟨_, _, _, _, _, _, _, _, _, _, _, _, hfin⟩ := h; exact hD (hfin.1 0 (by decide))))
      obtain ⟨s17, s18, s19, s20, s21, s22, s23, s24, s25, s26, s27, rfl, hb, h0, h1, h2, h3, h4, h5, h6, h7, h8, h9, g2_1, g4_3, g6_5, g7_6, g8_4, g8_7⟩ := hJ.2 hlast
      clear hJ
      clear hA
      have hcl := (cell_at (hb.block _ hwl)).trans (cells1 H1.out.wv).1
      have H0 := Lib.hid h0; have H1 := Lib.hid h1; have H2 := Lib.hid h2; have H3 := Lib.hid h3; have H4 := Lib.hid h4; have H5 := Lib.hid h5; have H6 := Lib.hid h6; have H7 := Lib.hid h7; have H8 := Lib.hid h8; have H9 := Lib.hid h9; have Hb := Lib.hid hb; have HD := Lib.hid hD; clear hb hD h0 h1 h2 h3 h4 h5 h6 h7 h8 h9
      go_wp2
      rw [HJ.out]
      exact ⟨fun h => absurd (h.resolve_right (by decide)) hlast, fun _ => ⟨_, _, _, _, _, _, _, _, _, _, _, rfl, Hb.out, fun _ => rfl, fun h => (H1.out (h.resolve_right (by decide))), fun h => (H2.out (h.resolve_right (by decide))), fun h => (H3.out (h.resolve_right (by decide))), fun h => (H4.out (h.resolve_right (by decide))), fun h => (H5.out (h.resolve_right (by decide))), fun h => (H6.out (h.resolve_right (by decide))), fun h => (H7.out (h.resolve_right (by decide))), fun h => (H8.out (h.resolve_right (by decide))), fun h => (H9.out (h.resolve_right (by decide))), fun h => .inl (g2_1 (h.resolve_right (by decide))), fun h => .inl (g4_3 (h.resolve_right (by decide))), fun h => .inl (g6_5 (h.resolve_right (by decide))), fun h => .inl (g7_6 (h.resolve_right (by decide))), fun h => .inl (g8_4 (h.resolve_right (by decide))), fun h => .inl (g8_7 (h.resolve_right (by decide)))⟩⟩
    | 1, hi, hA =>
      obtain rfl := Option.some.inj hi
      clear hi
      by_cases hlast : D 10
      case pos =>
        exact absurd (hJ.1 hlast) (fun h => (by obtain ⟨_, _, _, _, _, _, _, _, _, _, _, _, hfin⟩ := h; exact hD (hfin.1 1 (by decide))))
      obtain ⟨s17, s18, s19, s20, s21, s22, s23, s24, s25, s26, s27, rfl, hb, h0, h1, h2, h3, h4, h5, h6, h7, h8, h9, g2_1, g4_3, g6_5, g7_6, g8_4, g8_7⟩ := hJ.2 hlast
      clear hJ
      clear hA
      have H0 := Lib.hid h0; have H1 := Lib.hid h1; have H2 := Lib.hid h2; have H3 := Lib.hid h3; have H4 := Lib.hid h4; have H5 := Lib.hid h5; have H6 := Lib.hid h6; have H7 := Lib.hid h7; have H8 := Lib.hid h8; have H9 := Lib.hid h9; have Hb := Lib.hid hb; have HD := Lib.hid hD; clear hb hD h0 h1 h2 h3 h4 h5 h6 h7 h8 h9
      go_wp2
      rw [HJ.out]
      exact ⟨fun h => absurd (h.resolve_right (by decide)) hlast, fun _ => ⟨_, _, _, _, _, _, _, _, _, _, _, rfl, Hb.out, fun h => (H0.out (h.resolve_right (by decide))), fun _ => rfl, fun h => (H2.out (h.resolve_right (by decide))), fun h => (H3.out (h.resolve_right (by decide))), fun h => (H4.out (h.resolve_right (by decide))), fun h => (H5.out (h.resolve_right (by decide))), fun h => (H6.out (h.resolve_right (by decide))), fun h => (H7.out (h.resolve_right (by decide))), fun h => (H8.out (h.resolve_right (by decide))), fun h => (H9.out (h.resolve_right (by decide))), fun _ => .inr rfl, fun h => .inl (g4_3 (h.resolve_right (by decide))), fun h => .inl (g6_5 (h.resolve_right (by decide))), fun h => .inl (g7_6 (h.resolve_right (by decide))), fun h => .inl (g8_4 (h.resolve_right (by decide))), fun h => .inl (g8_7 (h.resolve_right (by decide)))⟩⟩
    | 2, hi, hA =>
      obtain rfl := Option.some.inj hi
      clear hi
      by_cases hlast : D 10
      case pos =>
        exact absurd (hJ.1 hlast) (fun h => (by obtain ⟨_, _, _, _, _, _, _, _, _, _, _, _, hfin⟩ := h; exact hD (hfin.1 2 (by decide))))
      obtain ⟨s17, s18, s19, s20, s21, s22, s23, s24, s25, s26, s27, rfl, hb, h0, h1, h2, h3, h4, h5, h6, h7, h8, h9, g2_1, g4_3, g6_5, g7_6, g8_4, g8_7⟩ := hJ.2 hlast
      clear hJ
      have d1 := after_of hA 1 (by decide +kernel)
      clear hA
      obtain rfl := h1 d1
      have hcl := (cell_at (hb.block _ hnbl)).trans (cellsT Hnew.out).2.1
      have H0 := Lib.hid h0; have H1 := Lib.hid h1; have H2 := Lib.hid h2; have H3 := Lib.hid h3; have H4 := Lib.hid h4; have H5 := Lib.hid h5; have H6 := Lib.hid h6; have H7 := Lib.hid h7; have H8 := Lib.hid h8; have H9 := Lib.hid h9; have Hb := Lib.hid hb; have HD := Lib.hid hD; clear hb hD h0 h1 h2 h3 h4 h5 h6 h7 h8 h9
      go_wp2
      rw [HJ.out]
      exact ⟨fun h => absurd (h.resolve_right (by decide)) hlast, fun _ => ⟨_, _, _, _, _, _, _, _, _, _, _, rfl, Hb.out, fun h => (H0.out (h.resolve_right (by decide))), fun _ => rfl, fun _ => rfl, fun h => (H3.out (h.resolve_right (by decide))), fun h => (H4.out (h.resolve_right (by decide))), fun h => (H5.out (h.resolve_right (by decide))), fun h => (H6.out (h.resolve_right (by decide))), fun h => (H7.out (h.resolve_right (by decide))), fun h => (H8.out (h.resolve_right (by decide))), fun h => (H9.out (h.resolve_right (by decide))), fun _ => .inl d1, fun h => .inl (g4_3 (h.resolve_right (by decide))), fun h => .inl (g6_5 (h.resolve_right (by decide))), fun h => .inl (g7_6 (h.resolve_right (by decide))), fun h => .inl (g8_4 (h.resolve_right (by decide))), fun h => .inl (g8_7 (h.resolve_right (by decide)))⟩⟩
    | 3, hi, hA =>
      obtain rfl := Option.some.inj hi
      clear hi
      by_cases hlast : D 10
      case pos =>
        exact absurd (hJ.1 hlast) (fun h => (by obtain ⟨_, _, _, _, _, _, _, _, _, _, _, _, hfin⟩ := h; exact hD (hfin.1 3 (by decide))))
      obtain ⟨s17, s18, s19, s20, s21, s22, s23, s24, s25, s26, s27, rfl, hb, h0, h1, h2, h3, h4, h5, h6, h7, h8, h9, g2_1, g4_3, g6_5, g7_6, g8_4, g8_7⟩ := hJ.2 hlast
      clear hJ
      clear hA
      have H0 := Lib.hid h0; have H1 := Lib.hid h1; have H2 := Lib.hid h2; have H3 := Lib.hid h3; have H4 := Lib.hid h4; have H5 := Lib.hid h5; have H6 := Lib.hid h6; have H7 := Lib.hid h7; have H8 := Lib.hid h8; have H9 := Lib.hid h9; have Hb := Lib.hid hb; have HD := Lib.hid hD; clear hb hD h0 h1 h2 h3 h4 h5 h6 h7 h8 h9
      go_wp2
      rw [HJ.out]
      exact ⟨fun h => absurd (h.resolve_right (by decide)) hlast, fun _ => ⟨_, _, _, _, _, _, _, _, _, _, _, rfl, Hb.out, fun h => (H0.out (h.resolve_right (by decide))), fun h => (H1.out (h.resolve_right (by decide))), fun h => (H2.out (h.resolve_right (by decide))), fun _ => rfl, fun h => (H4.out (h.resolve_right (by decide))), fun h => (H5.out (h.resolve_right (by decide))), fun h => (H6.out (h.resolve_right (by decide))), fun h => (H7.out (h.resolve_right (by decide))), fun h => (H8.out (h.resolve_right (by decide))), fun h => (H9.out (h.resolve_right (by decide))), fun h => .inl (g2_1 (h.resolve_right (by decide))), fun _ => .inr rfl, fun h => .inl (g6_5 (h.resolve_right (by decide))), fun h => .inl (g7_6 (h.resolve_right (by decide))), fun h => .inl (g8_4 (h.resolve_right (by decide))), fun h => .inl (g8_7 (h.resolve_right (by decide)))⟩⟩
    | 4, hi, hA =>
      obtain rfl := Option.some.inj hi
      clear hi
      by_cases hlast : D 10
      case pos =>
        exact absurd (hJ.1 hlast) (fun h => (by obtain ⟨_, _, _, _, _, _, _, _, _, _, _, _, hfin⟩ := h; exact hD (hfin.1 4 (by decide))))
      obtain ⟨s17, s18, s19, s20, s21, s22, s23, s24, s25, s26, s27, rfl, hb, h0, h1, h2, h3, h4, h5, h6, h7, h8, h9, g2_1, g4_3, g6_5, g7_6, g8_4, g8_7⟩ := hJ.2 hlast
      clear hJ
      have d3 := after_of hA 3 (by decide +kernel)
      clear hA
      obtain rfl := h3 d3
      have hcall := clip_any bp pos.length kp hkp w'
      have H0 := Lib.hid h0; have H1 := Lib.hid h1; have H2 := Lib.hid h2; have H3 := Lib.hid h3; have H4 := Lib.hid h4; have H5 := Lib.hid h5; have H6 := Lib.hid h6; have H7 := Lib.hid h7; have H8 := Lib.hid h8; have H9 := Lib.hid h9; have Hb := Lib.hid hb; have HD := Lib.hid hD; clear hb hD h0 h1 h2 h3 h4 h5 h6 h7 h8 h9
      go_wp2_with (go_at_call 45; refine hcall.mono ?_; rintro e u ⟨rfl, hu⟩; subst hu)
      rw [HJ.out]
      exact ⟨fun h => absurd (h.resolve_right (by decide)) hlast, fun _ => ⟨_, _, _, _, _, _, _, _, _, _, _, rfl, Hb.out, fun h => (H0.out (h.resolve_right (by decide))), fun h => (H1.out (h.resolve_right (by decide))), fun h => (H2.out (h.resolve_right (by decide))), fun _ => rfl, fun _ => rfl, fun h => (H5.out (h.resolve_right (by decide))), fun h => (H6.out (h.resolve_right (by decide))), fun h => (H7.out (h.resolve_right (by decide))), fun h => (H8.out (h.resolve_right (by decide))), fun h => (H9.out (h.resolve_right (by decide))), fun h => .inl (g2_1 (h.resolve_right (by decide))), fun _ => .inl d3, fun h => .inl (g6_5 (h.resolve_right (by decide))), fun h => .inl (g7_6 (h.resolve_right (by decide))), fun _ => .inr rfl, fun h => .inl (g8_7 (h.resolve_right (by decide)))⟩⟩
    | 5, hi, hA =>
      obtain rfl := Option.some.inj hi
      clear hi
      by_cases hlast : D 10
      case pos =>
        exact absurd (hJ.1 hlast) (fun h => (by obtain ⟨_, _, _, _, _, _, _, _, _, _, _, _, hfin⟩ := h; exact hD (hfin.1 5 (by decide))))
      obtain ⟨s17, s18, s19, s20, s21, s22, s23, s24, s25, s26, s27, rfl, hb, h0, h1, h2, h3, h4, h5, h6, h7, h8, h9, g2_1, g4_3, g6_5, g7_6, g8_4, g8_7⟩ := hJ.2 hlast
      clear hJ
      clear hA
      have H0 := Lib.hid h0; have H1 := Lib.hid h1; have H2 := Lib.hid h2; have H3 := Lib.hid h3; have H4 := Lib.hid h4; have H5 := Lib.hid h5; have H6 := Lib.hid h6; have H7 := Lib.hid h7; have H8 := Lib.hid h8; have H9 := Lib.hid h9; have Hb := Lib.hid hb; have HD := Lib.hid hD; clear hb hD h0 h1 h2 h3 h4 h5 h6 h7 h8 h9
      go_wp2
      rw [HJ.out]
      exact ⟨fun h => absurd (h.resolve_right (by decide)) hlast, fun _ => ⟨_, _, _, _, _, _, _, _, _, _, _, rfl, Hb.out, fun h => (H0.out (h.resolve_right (by decide))), fun h => (H1.out (h.resolve_right (by decide))), fun h => (H2.out (h.resolve_right (by decide))), fun h => (H3.out (h.resolve_right (by decide))), fun h => (H4.out (h.resolve_right (by decide))), fun _ => rfl, fun h => (H6.out (h.resolve_right (by decide))), fun h => (H7.out (h.resolve_right (by decide))), fun h => (H8.out (h.resolve_right (by decide))), fun h => (H9.out (h.resolve_right (by decide))), fun h => .inl (g2_1 (h.resolve_right (by decide))), fun h => .inl (g4_3 (h.resolve_right (by decide))), fun _ => .inr rfl, fun h => .inl (g7_6 (h.resolve_right (by decide))), fun h => .inl (g8_4 (h.resolve_right (by decide))), fun h => .inl (g8_7 (h.resolve_right (by decide)))⟩⟩
    | 6, hi, hA =>
      obtain rfl := Option.some.inj hi
      clear hi
      by_cases hlast : D 10
      case pos =>
        exact absurd (hJ.1 hlast) (fun h => (by obtain ⟨_, _, _, _, _, _, _, _, _, _, _, _, hfin⟩ := h; exact hD (hfin.1 6 (by decide))))
      obtain ⟨s17, s18, s19, s20, s21, s22, s23, s24, s25, s26, s27, rfl, hb, h0, h1, h2, h3, h4, h5, h6, h7, h8, h9, g2_1, g4_3, g6_5, g7_6, g8_4, g8_7⟩ := hJ.2 hlast
      clear hJ
      have d5 := after_of hA 5 (by decide +kernel)
      clear hA
      obtain rfl := h5 d5
      have hcl := (cell_at (hb.block _ hnbl)).trans (cellsT Hnew.out).1
      have H0 := Lib.hid h0; have H1 := Lib.hid h1; have H2 := Lib.hid h2; have H3 := Lib.hid h3; have H4 := Lib.hid h4; have H5 := Lib.hid h5; have H6 := Lib.hid h6; have H7 := Lib.hid h7; have H8 := Lib.hid h8; have H9 := Lib.hid h9; have Hb := Lib.hid hb; have HD := Lib.hid hD; clear hb hD h0 h1 h2 h3 h4 h5 h6 h7 h8 h9
      go_wp2
      rw [HJ.out]
      exact ⟨fun h => absurd (h.resolve_right (by decide)) hlast, fun _ => ⟨_, _, _, _, _, _, _, _, _, _, _, rfl, Hb.out, fun h => (H0.out (h.resolve_right (by decide))), fun h => (H1.out (h.resolve_right (by decide))), fun h => (H2.out (h.resolve_right (by decide))), fun h => (H3.out (h.resolve_right (by decide))), fun h => (H4.out (h.resolve_right (by decide))), fun _ => rfl, fun _ => rfl, fun h => (H7.out (h.resolve_right (by decide))), fun h => (H8.out (h.resolve_right (by decide))), fun h => (H9.out (h.resolve_right (by decide))), fun h => .inl (g2_1 (h.resolve_right (by decide))), fun h => .inl (g4_3 (h.resolve_right (by decide))), fun _ => .inl d5, fun _ => .inr rfl, fun h => .inl (g8_4 (h.resolve_right (by decide))), fun h => .inl (g8_7 (h.resolve_right (by decide)))⟩⟩
    | 7, hi, hA =>
      obtain rfl := Option.some.inj hi
      clear hi
      by_cases hlast : D 10
      case pos =>
        exact absurd (hJ.1 hlast) (fun h => (by obtain ⟨_, _, _, _, _, _, _, _, _, _, _, _, hfin⟩ := h; exact hD (hfin.1 7 (by decide))))
      obtain ⟨s17, s18, s19, s20, s21, s22, s23, s24, s25, s26, s27, rfl, hb, h0, h1, h2, h3, h4, h5, h6, h7, h8, h9, g2_1, g4_3, g6_5, g7_6, g8_4, g8_7⟩ := hJ.2 hlast
      clear hJ
      have d6 := after_of hA 6 (by decide +kernel)
      clear hA
      obtain rfl := h6 d6
      have H0 := Lib.hid h0; have H1 := Lib.hid h1; have H2 := Lib.hid h2; have H3 := Lib.hid h3; have H4 := Lib.hid h4; have H5 := Lib.hid h5; have H6 := Lib.hid h6; have H7 := Lib.hid h7; have H8 := Lib.hid h8; have H9 := Lib.hid h9; have Hb := Lib.hid hb; have HD := Lib.hid hD; clear hb hD h0 h1 h2 h3 h4 h5 h6 h7 h8 h9
      go_wp2
      have Hq := Lib.hid ((Below.refl w'.heap.size w').alloc (Nat.le_refl _) (.cells #[.int .i64 l] 3))
      rw [HJ.out]
      exact ⟨fun h => absurd (h.resolve_right (by decide)) hlast, fun _ => ⟨_, _, _, _, _, _, _, _, _, _, _, rfl, Hb.out.trans (Hq.out.mono Hb.out.size), fun h => (H0.out (h.resolve_right (by decide))), fun h => (H1.out (h.resolve_right (by decide))), fun h => (H2.out (h.resolve_right (by decide))), fun h => (H3.out (h.resolve_right (by decide))), fun h => (H4.out (h.resolve_right (by decide))), fun h => (H5.out (h.resolve_right (by decide))), fun _ => rfl, fun _ => ⟨_, rfl, heap_alloc_new _ _⟩, fun h => ((H8.out (h.resolve_right (by decide)))).below Hq.out, fun h => (H9.out (h.resolve_right (by decide))), fun h => .inl (g2_1 (h.resolve_right (by decide))), fun h => .inl (g4_3 (h.resolve_right (by decide))), fun h => .inl (g6_5 (h.resolve_right (by decide))), fun _ => .inl d6, fun h => .inl (g8_4 (h.resolve_right (by decide))), fun _ => .inr rfl⟩⟩
    | 8, hi, hA =>
      obtain rfl := Option.some.inj hi
      clear hi
      by_cases hlast : D 10
      case pos =>
        exact absurd (hJ.1 hlast) (fun h => (by obtain ⟨_, _, _, _, _, _, _, _, _, _, _, _, hfin⟩ := h; exact hD (hfin.1 8 (by decide))))
      obtain ⟨s17, s18, s19, s20, s21, s22, s23, s24, s25, s26, s27, rfl, hb, h0, h1, h2, h3, h4, h5, h6, h7, h8, h9, g2_1, g4_3, g6_5, g7_6, g8_4, g8_7⟩ := hJ.2 hlast
      clear hJ
      have d4 := after_of hA 4 (by decide +kernel)
      have d7 := after_of hA 7 (by decide +kernel)
      clear hA
      obtain rfl := h4 d4
      obtain ⟨g, rfl, hg⟩ := h7 d7
      have Hg := Lib.hid (OneI.rc hg)
      have Hg2 := Lib.hid hg
      clear hg
      obtain ⟨_, _, e0, _, hrt⟩ := (id (HP1.out.below hb) : I3 w' (.slice bp pos.length kp) pos)
      cases e0
      have Hrt := Lib.hid hrt; clear hrt
      have hl0 : pos.length + 1 ≤ 67108864 := by omega
      have hl1 : pos.length < pos.length + 1 := by omega
      have H0 := Lib.hid h0; have H1 := Lib.hid h1; have H2 := Lib.hid h2; have H3 := Lib.hid h3; have H4 := Lib.hid h4; have H5 := Lib.hid h5; have H6 := Lib.hid h6; have H7 := Lib.hid h7; have H8 := Lib.hid h8; have H9 := Lib.hid h9; have Hb := Lib.hid hb; have HD := Lib.hid hD; clear hb hD h0 h1 h2 h3 h4 h5 h6 h7 h8 h9
      go_wp2_with (at_builtin; go_loud (refine wpList_append_rc rfl (.tmp 21) (.tmp 24) 44 rfl 3 (by kernel_rfl) int_info (by decide) _ bp (some ⟨g, 0, none⟩) pos.length 1 pos.length 1 (ic pos) (ic [(l : Int)]) rfl rfl Hrt.out.rc Hg.out (ic_one _) (Nat.le_refl _) (.inr hl1) hl0 ?_; intro A' c' w2 q1 q2 q3 q4; have Hq2 := Lib.hid (q2 Hrt.out); have Hq3 := Lib.hid q3; have Hq := Lib.hid q4; clear q1 q2 q3 q4))
      rw [HJ.out]
      exact ⟨fun h => absurd (h.resolve_right (by decide)) hlast, fun _ => ⟨_, _, _, _, _, _, _, _, _, _, _, rfl, Hb.out.trans (Hq.out.mono Hb.out.size), fun h => (H0.out (h.resolve_right (by decide))), fun h => (H1.out (h.resolve_right (by decide))), fun h => (H2.out (h.resolve_right (by decide))), fun h => (H3.out (h.resolve_right (by decide))), fun _ => rfl, fun h => (H5.out (h.resolve_right (by decide))), fun h => (H6.out (h.resolve_right (by decide))), fun h => ((H7.out (h.resolve_right (by decide)))).below Hq.out, fun _ => ⟨A', c', by rw [List.length_append]; rfl, by rw [List.length_append]; exact Hq3.out, by rw [List.length_append]; simpa [ic] using Hq2.out⟩, fun h => (H9.out (h.resolve_right (by decide))), fun h => .inl (g2_1 (h.resolve_right (by decide))), fun h => .inl (g4_3 (h.resolve_right (by decide))), fun h => .inl (g6_5 (h.resolve_right (by decide))), fun h => .inl (g7_6 (h.resolve_right (by decide))), fun _ => .inl d4, fun _ => .inl d7⟩⟩
    | 9, hi, hA =>
      obtain rfl := Option.some.inj hi
      clear hi
      by_cases hlast : D 10
      case pos =>
        exact absurd (hJ.1 hlast) (fun h => (by obtain ⟨_, _, _, _, _, _, _, _, _, _, _, _, hfin⟩ := h; exact hD (hfin.1 9 (by decide))))
      obtain ⟨s17, s18, s19, s20, s21, s22, s23, s24, s25, s26, s27, rfl, hb, h0, h1, h2, h3, h4, h5, h6, h7, h8, h9, g2_1, g4_3, g6_5, g7_6, g8_4, g8_7⟩ := hJ.2 hlast
      clear hJ
      clear hA
      have H0 := Lib.hid h0; have H1 := Lib.hid h1; have H2 := Lib.hid h2; have H3 := Lib.hid h3; have H4 := Lib.hid h4; have H5 := Lib.hid h5; have H6 := Lib.hid h6; have H7 := Lib.hid h7; have H8 := Lib.hid h8; have H9 := Lib.hid h9; have Hb := Lib.hid hb; have HD := Lib.hid hD; clear hb hD h0 h1 h2 h3 h4 h5 h6 h7 h8 h9
      go_wp2
      rw [HJ.out]
      exact ⟨fun h => absurd (h.resolve_right (by decide)) hlast, fun _ => ⟨_, _, _, _, _, _, _, _, _, _, _, rfl, Hb.out, fun h => (H0.out (h.resolve_right (by decide))), fun h => (H1.out (h.resolve_right (by decide))), fun h => (H2.out (h.resolve_right (by decide))), fun h => (H3.out (h.resolve_right (by decide))), fun h => (H4.out (h.resolve_right (by decide))), fun h => (H5.out (h.resolve_right (by decide))), fun h => (H6.out (h.resolve_right (by decide))), fun h => (H7.out (h.resolve_right (by decide))), fun h => (H8.out (h.resolve_right (by decide))), fun _ => rfl, fun h => .inl (g2_1 (h.resolve_right (by decide))), fun h => .inl (g4_3 (h.resolve_right (by decide))), fun h => .inl (g6_5 (h.resolve_right (by decide))), fun h => .inl (g7_6 (h.resolve_right (by decide))), fun h => .inl (g8_4 (h.resolve_right (by decide))), fun h => .inl (g8_7 (h.resolve_right (by decide)))⟩⟩
    | 10, hi, hA =>
      obtain rfl := Option.some.inj hi
      clear hi
      obtain ⟨s17, s18, s19, s20, s21, s22, s23, s24, s25, s26, s27, rfl, hb, h0, h1, h2, h3, h4, h5, h6, h7, h8, h9, g2_1, g4_3, g6_5, g7_6, g8_4, g8_7⟩ := hJ.2 hD
      clear hJ
      have d0 := after_of hA 0 (by decide +kernel)
      have d2 := after_of hA 2 (by decide +kernel)
      have d8 := after_of hA 8 (by decide +kernel)
      have d9 := after_of hA 9 (by decide +kernel)
      clear hA
      obtain rfl := h0 d0
      obtain rfl := h2 d2
      obtain rfl := h9 d9
      have hcall := Ihh.out _ w' (H1.out.below hb) (h8 d8) (HN1.out.below hb)
      have H0 := Lib.hid h0; have H1 := Lib.hid h1; have H2 := Lib.hid h2; have H3 := Lib.hid h3; have H4 := Lib.hid h4; have H5 := Lib.hid h5; have H6 := Lib.hid h6; have H7 := Lib.hid h7; have H8 := Lib.hid h8; have H9 := Lib.hid h9; have Hb := Lib.hid hb; have HD := Lib.hid hD; clear hb hD h0 h1 h2 h3 h4 h5 h6 h7 h8 h9
      go_wp2_with (go_at_call 43; refine hcall.mono ?_; rintro e w2 ⟨VP2, v2, rfl, hI2, hf2⟩; have HI2 := Lib.hid hI2; have Hf2 := Lib.hid hf2; clear hI2 hf2)
      rw [HJ.out]
      exact ⟨fun _ => ⟨_, _, _, _, _, _, _, _, _, _, _, rfl, (fun k hk => match k, hk with | 0, _ => .inl d0 | 1, _ => .inl (g2_1 d2) | 2, _ => .inl d2 | 3, _ => .inl (g4_3 (g8_4 d8)) | 4, _ => .inl (g8_4 d8) | 5, _ => .inl (g6_5 (g7_6 (g8_7 d8))) | 6, _ => .inl (g7_6 (g8_7 d8)) | 7, _ => .inl (g8_7 d8) | 8, _ => .inl d8 | 9, _ => .inl d9 | 10, _ => .inr rfl | n + 11, h => absurd h (by omega)), _, _, HI2.out, (Fr.of_below Hb.out).trans Hf2.out⟩, fun h => absurd (.inr rfl) h⟩
    | n + 11, hi, hA => cases hi
  · intro D ac w' hall hJ
    rw [HJ.out] at hJ
    obtain ⟨s17, s18, s19, s20, s21, s22, s23, s24, s25, s26, s27, rfl, hfin⟩ := hJ.1 (hall 10 (by decide))
    have hd : ∀ i, i < 11 → D i := hall
    clear hall
    obtain ⟨-, VP1, v1, hI1, hf1⟩ := hfin
    have hnew3 := H1.out.far hf1 Hnew.out (by decide) (by decide)
    have hp3 := HP1.out.keep (H1.out.ints hf1)
    have hn3 := HN1.out.keep (H1.out.ints hf1)
    have hf3 := Hf1.out.trans hf1
    clear HJ hJ J hd H1 HP1 HN1 Hf1 Hnew hnbl hwl hf1 hovl hob
    have H1 := Lib.hid hI1; have HP1 := Lib.hid hp3; have HN1 := Lib.hid hn3; have Hf1 := Lib.hid hf3; have Hnew := Lib.hid hnew3
    have hnbl := heap_lt Hnew.out
    have hwl := heap_lt H1.out.wv
    clear hI1 hp3 hn3 hf3 hnew3
    generalize w' = wb at *
    have hK : ∀ {K : Act → World → Prop} {Q : Exit → Act → World → Prop} {a : Act} {w : World}, K a w → Exit.then K Q .normal a w := fun h => h
    refine hK ?_
    go_upto_region 3 with fail
    obtain ⟨J, hJd⟩ : ∃ J : (Nat → Prop) → Act → World → Prop, J = fun (D : Nat → Prop) (ac : Act) (w' : World) => (D 10 → ∃ (s28 s29 s30 s31 s32 s33 s34 s35 s36 s37 s38 : Value), ac = ⟨((.int .i64 ((idx : Int) + 2)) :: (.slice bp pos.length kp) :: (.slice bn neg.length kn) :: (.pointer (some ⟨c.ov, 0, none⟩)) :: (.pointer (some ⟨c.dv, 0, none⟩)) :: (.pointer (some ⟨c.wv, 0, none⟩)) :: undef :: undef :: undef :: (.pointer (some ⟨w.heap.size, 0, none⟩)) :: (.int .i64 ((idx : Int) + 2)) :: (.pointer (some ⟨c.dv, 0, none⟩)) :: (.slice (some ⟨a, o, none⟩) (nodes L).length cap) :: (.int .i64 ((idx : Int) + 2)) :: (.int .i64 idx) :: (.pointer (some ⟨a, o + idx * 3, none⟩)) :: (.agg #[.int .i64 l, .int .i64 rh, .int .i64 rk]) :: s17 :: s18 :: s19 :: s20 :: s21 :: s22 :: s23 :: s24 :: s25 :: s26 :: s27 :: s28 :: s29 :: s30 :: s31 :: s32 :: s33 :: s34 :: s35 :: s36 :: s37 :: s38 :: (.bool false) :: (.bool false) :: (.bool false) :: (.bool false) :: undef :: undef :: undef :: undef :: undef :: undef :: undef :: undef :: []).toArray, []⟩ ∧ (∀ k, k < 11 → D k) ∧ ∃ VP2 v2, PI Z c (some ⟨a, o, none⟩) cap r L VP2 ((ps ++ waysT H (pos ++ [(l : Int)]) neg) ++ waysT K pos (neg ++ [(l : Int)])) v2 w' ∧ Fr [c.ov] v1 v2 wb w') ∧ (¬ D 10 → ∃ (s28 s29 s30 s31 s32 s33 s34 s35 s36 s37 s38 : Value), ac = ⟨((.int .i64 ((idx : Int) + 2)) :: (.slice bp pos.length kp) :: (.slice bn neg.length kn) :: (.pointer (some ⟨c.ov, 0, none⟩)) :: (.pointer (some ⟨c.dv, 0, none⟩)) :: (.pointer (some ⟨c.wv, 0, none⟩)) :: undef :: undef :: undef :: (.pointer (some ⟨w.heap.size, 0, none⟩)) :: (.int .i64 ((idx : Int) + 2)) :: (.pointer (some ⟨c.dv, 0, none⟩)) :: (.slice (some ⟨a, o, none⟩) (nodes L).length cap) :: (.int .i64 ((idx : Int) + 2)) :: (.int .i64 idx) :: (.pointer (some ⟨a, o + idx * 3, none⟩)) :: (.agg #[.int .i64 l, .int .i64 rh, .int .i64 rk]) :: s17 :: s18 :: s19 :: s20 :: s21 :: s22 :: s23 :: s24 :: s25 :: s26 :: s27 :: s28 :: s29 :: s30 :: s31 :: s32 :: s33 :: s34 :: s35 :: s36 :: s37 :: s38 :: (.bool false) :: (.bool false) :: (.bool false) :: (.bool false) :: undef :: undef :: undef :: undef :: undef :: undef :: undef :: undef :: []).toArray, []⟩ ∧ Below wb.heap.size wb w' ∧ (D 0 → s28 = (.func (.func 43) #[] #[.pointer (some ⟨c.ov, 0, none⟩), .pointer (some ⟨c.dv, 0, none⟩), .pointer (some ⟨c.wv, 0, none⟩)])) ∧ (D 1 → s29 = (.pointer (some ⟨w.heap.size, 2, none⟩))) ∧ (D 2 → s30 = (.int .i64 rk)) ∧ (D 3 → s31 = (.slice bp pos.length kp)) ∧ (D 4 → s32 = (.slice bn neg.length kn)) ∧ (D 5 → s33 = (.slice bn neg.length neg.length)) ∧ (D 6 → s34 = (.pointer (some ⟨w.heap.size, 0, none⟩))) ∧ (D 7 → s35 = (.int .i64 l)) ∧ (D 8 → OneI w' s36 l) ∧ (D 9 → I3 w' s37 (neg ++ [(l : Int)])) ∧ (D 2 → D 1) ∧ (D 5 → D 4) ∧ (D 7 → D 6) ∧ (D 8 → D 7) ∧ (D 9 → D 5) ∧ (D 9 → D 8)) := ⟨_, rfl⟩
    have HJ := Lib.hid hJd; clear hJd
    refine Inv.wp_region_inv J (by kernel_rfl) (by decide +kernel) ?_ ?_ ?_
    · rw [HJ.out]
      exact ⟨fun h => h.elim, fun _ => ⟨_, _, _, _, _, _, _, _, _, _, _, rfl, (Below.refl _ _).drew, fun h => h.elim, fun h => h.elim, fun h => h.elim, fun h => h.elim, fun h => h.elim, fun h => h.elim, fun h => h.elim, fun h => h.elim, fun h => h.elim, fun h => h.elim, fun h => h.elim, fun h => h.elim, fun h => h.elim, fun h => h.elim, fun h => h.elim, fun h => h.elim⟩⟩
    · intro i op hi D ac w' hD hA hJ
      rw [HJ.out] at hJ
      skip
      match i, hi, hA with
      | 0, hi, hA =>
        obtain rfl := Option.some.inj hi
        clear hi
        by_cases hlast : D 10
        case pos =>
          exact absurd (hJ.1 hlast) (fun h => (by obtain ⟨_, _, _, _, _, _, _, _, _, _, _, _, hfin⟩ := h; exact hD (hfin.1 0 (by decide))))
        obtain ⟨s28, s29, s30, s31, s32, s33, s34, s35, s36, s37, s38, rfl, hb, h0, h1, h2, h3, h4, h5, h6, h7, h8, h9, g2_1, g5_4, g7_6, g8_7, g9_5, g9_8⟩ := hJ.2 hlast
        clear hJ
        clear hA
        have hcl := (cell_at (hb.block _ hwl)).trans (cells1 H1.out.wv).1
        have H0 := Lib.hid h0; have H1 := Lib.hid h1; have H2 := Lib.hid h2; have H3 := Lib.hid h3; have H4 := Lib.hid h4; have H5 := Lib.hid h5; have H6 := Lib.hid h6; have H7 := Lib.hid h7; have H8 := Lib.hid h8; have H9 := Lib.hid h9; have Hb := Lib.hid hb; have HD := Lib.hid hD; clear hb hD h0 h1 h2 h3 h4 h5 h6 h7 h8 h9
        go_wp2
        rw [HJ.out]
        exact ⟨fun h => absurd (h.resolve_right (by decide)) hlast, fun _ => ⟨_, _, _, _, _, _, _, _, _, _, _, rfl, Hb.out, fun _ => rfl, fun h => (H1.out (h.resolve_right (by decide))), fun h => (H2.out (h.resolve_right (by decide))), fun h => (H3.out (h.resolve_right (by decide))), fun h => (H4.out (h.resolve_right (by decide))), fun h => (H5.out (h.resolve_right (by decide))), fun h => (H6.out (h.resolve_right (by decide))), fun h => (H7.out (h.resolve_right (by decide))), fun h => (H8.out (h.resolve_right (by decide))), fun h => (H9.out (h.resolve_right (by decide))), fun h => .inl (g2_1 (h.resolve_right (by decide))), fun h => .inl (g5_4 (h.resolve_right (by decide))), fun h => .inl (g7_6 (h.resolve_right (by decide))), fun h => .inl (g8_7 (h.resolve_right (by decide))), fun h => .inl (g9_5 (h.resolve_right (by decide))), fun h => .inl (g9_8 (h.resolve_right (by decide)))⟩⟩
      | 1, hi, hA =>
        obtain rfl := Option.some.inj hi
        clear hi
        by_cases hlast : D 10
        case pos =>
          exact absurd (hJ.1 hlast) (fun h => (by obtain ⟨_, _, _, _, _, _, _, _, _, _, _, _, hfin⟩ := h; exact hD (hfin.1 1 (by decide))))
        obtain ⟨s28, s29, s30, s31, s32, s33, s34, s35, s36, s37, s38, rfl, hb, h0, h1, h2, h3, h4, h5, h6, h7, h8, h9, g2_1, g5_4, g7_6, g8_7, g9_5, g9_8⟩ := hJ.2 hlast
        clear hJ
        clear hA
        have H0 := Lib.hid h0; have H1 := Lib.hid h1; have H2 := Lib.hid h2; have H3 := Lib.hid h3; have H4 := Lib.hid h4; have H5 := Lib.hid h5; have H6 := Lib.hid h6; have H7 := Lib.hid h7; have H8 := Lib.hid h8; have H9 := Lib.hid h9; have Hb := Lib.hid hb; have HD := Lib.hid hD; clear hb hD h0 h1 h2 h3 h4 h5 h6 h7 h8 h9
        go_wp2
        rw [HJ.out]
        exact ⟨fun h => absurd (h.resolve_right (by decide)) hlast, fun _ => ⟨_, _, _, _, _, _, _, _, _, _, _, rfl, Hb.out, fun h => (H0.out (h.resolve_right (by decide))), fun _ => rfl, fun h => (H2.out (h.resolve_right (by decide))), fun h => (H3.out (h.resolve_right (by decide))), fun h => (H4.out (h.resolve_right (by decide))), fun h => (H5.out (h.resolve_right (by decide))), fun h => (H6.out (h.resolve_right (by decide))), fun h => (H7.out (h.resolve_right (by decide))), fun h => (H8.out (h.resolve_right (by decide))), fun h => (H9.out (h.resolve_right (by decide))), fun _ => .inr rfl, fun h => .inl (g5_4 (h.resolve_right (by decide))), fun h => .inl (g7_6 (h.resolve_right (by decide))), fun h => .inl (g8_7 (h.resolve_right (by decide))), fun h => .inl (g9_5 (h.resolve_right (by decide))), fun h => .inl (g9_8 (h.resolve_right (by decide)))⟩⟩
      | 2, hi, hA =>
        obtain rfl := Option.some.inj hi
        clear hi
        by_cases hlast : D 10
        case pos =>
          exact absurd (hJ.1 hlast) (fun h => (by obtain ⟨_, _, _, _, _, _, _, _, _, _, _, _, hfin⟩ := h; exact hD (hfin.1 2 (by decide))))
        obtain ⟨s28, s29, s30, s31, s32, s33, s34, s35, s36, s37, s38, rfl, hb, h0, h1, h2, h3, h4, h5, h6, h7, h8, h9, g2_1, g5_4, g7_6, g8_7, g9_5, g9_8⟩ := hJ.2 hlast
        clear hJ
        have d1 := after_of hA 1 (by decide +kernel)
        clear hA
        obtain rfl := h1 d1
        have hcl := (cell_at (hb.block _ hnbl)).trans (cellsT Hnew.out).2.2
        have H0 := Lib.hid h0; have H1 := Lib.hid h1; have H2 := Lib.hid h2; have H3 := Lib.hid h3; have H4 := Lib.hid h4; have H5 := Lib.hid h5; have H6 := Lib.hid h6; have H7 := Lib.hid h7; have H8 := Lib.hid h8; have H9 := Lib.hid h9; have Hb := Lib.hid hb; have HD := Lib.hid hD; clear hb hD h0 h1 h2 h3 h4 h5 h6 h7 h8 h9
        go_wp2
        rw [HJ.out]
        exact ⟨fun h => absurd (h.resolve_right (by decide)) hlast, fun _ => ⟨_, _, _, _, _, _, _, _, _, _, _, rfl, Hb.out, fun h => (H0.out (h.resolve_right (by decide))), fun _ => rfl, fun _ => rfl, fun h => (H3.out (h.resolve_right (by decide))), fun h => (H4.out (h.resolve_right (by decide))), fun h => (H5.out (h.resolve_right (by decide))), fun h => (H6.out (h.resolve_right (by decide))), fun h => (H7.out (h.resolve_right (by decide))), fun h => (H8.out (h.resolve_right (by decide))), fun h => (H9.out (h.resolve_right (by decide))), fun _ => .inl d1, fun h => .inl (g5_4 (h.resolve_right (by decide))), fun h => .inl (g7_6 (h.resolve_right (by decide))), fun h => .inl (g8_7 (h.resolve_right (by decide))), fun h => .inl (g9_5 (h.resolve_right (by decide))), fun h => .inl (g9_8 (h.resolve_right (by decide)))⟩⟩
      | 3, hi, hA =>
        obtain rfl := Option.some.inj hi
        clear hi
        by_cases hlast : D 10
        case pos =>
          exact absurd (hJ.1 hlast) (fun h => (by obtain ⟨_, _, _, _, _, _, _, _, _, _, _, _, hfin⟩ := h; exact hD (hfin.1 3 (by decide))))
        obtain ⟨s28, s29, s30, s31, s32, s33, s34, s35, s36, s37, s38, rfl, hb, h0, h1, h2, h3, h4, h5, h6, h7, h8, h9, g2_1, g5_4, g7_6, g8_7, g9_5, g9_8⟩ := hJ.2 hlast
        clear hJ
        clear hA
        have H0 := Lib.hid h0; have H1 := Lib.hid h1; have H2 := Lib.hid h2; have H3 := Lib.hid h3; have H4 := Lib.hid h4; have H5 := Lib.hid h5; have H6 := Lib.hid h6; have H7 := Lib.hid h7; have H8 := Lib.hid h8; have H9 := Lib.hid h9; have Hb := Lib.hid hb; have HD := Lib.hid hD; clear hb hD h0 h1 h2 h3 h4 h5 h6 h7 h8 h9
        go_wp2
        rw [HJ.out]
        exact ⟨fun h => absurd (h.resolve_right (by decide)) hlast, fun _ => ⟨_, _, _, _, _, _, _, _, _, _, _, rfl, Hb.out, fun h => (H0.out (h.resolve_right (by decide))), fun h => (H1.out (h.resolve_right (by decide))), fun h => (H2.out (h.resolve_right (by decide))), fun _ => rfl, fun h => (H4.out (h.resolve_right (by decide))), fun h => (H5.out (h.resolve_right (by decide))), fun h => (H6.out (h.resolve_right (by decide))), fun h => (H7.out (h.resolve_right (by decide))), fun h => (H8.out (h.resolve_right (by decide))), fun h => (H9.out (h.resolve_right (by decide))), fun h => .inl (g2_1 (h.resolve_right (by decide))), fun h => .inl (g5_4 (h.resolve_right (by decide))), fun h => .inl (g7_6 (h.resolve_right (by decide))), fun h => .inl (g8_7 (h.resolve_right (by decide))), fun h => .inl (g9_5 (h.resolve_right (by decide))), fun h => .inl (g9_8 (h.resolve_right (by decide)))⟩⟩
      | 4, hi, hA =>
        obtain rfl := Option.some.inj hi
        clear hi
        by_cases hlast : D 10
        case pos =>
          exact absurd (hJ.1 hlast) (fun h => (by obtain ⟨_, _, _, _, _, _, _, _, _, _, _, _, hfin⟩ := h; exact hD (hfin.1 4 (by decide))))
        obtain ⟨s28, s29, s30, s31, s32, s33, s34, s35, s36, s37, s38, rfl, hb, h0, h1, h2, h3, h4, h5, h6, h7, h8, h9, g2_1, g5_4, g7_6, g8_7, g9_5, g9_8⟩ := hJ.2 hlast
        clear hJ
        clear hA
        have H0 := Lib.hid h0; have H1 := Lib.hid h1; have H2 := Lib.hid h2; have H3 := Lib.hid h3; have H4 := Lib.hid h4; have H5 := Lib.hid h5; have H6 := Lib.hid h6; have H7 := Lib.hid h7; have H8 := Lib.hid h8; have H9 := Lib.hid h9; have Hb := Lib.hid hb; have HD := Lib.hid hD; clear hb hD h0 h1 h2 h3 h4 h5 h6 h7 h8 h9
        go_wp2
        rw [HJ.out]
        exact ⟨fun h => absurd (h.resolve_right (by decide)) hlast, fun _ => ⟨_, _, _, _, _, _, _, _, _, _, _, rfl, Hb.out, fun h => (H0.out (h.resolve_right (by decide))), fun h => (H1.out (h.resolve_right (by decide))), fun h => (H2.out (h.resolve_right (by decide))), fun h => (H3.out (h.resolve_right (by decide))), fun _ => rfl, fun h => (H5.out (h.resolve_right (by decide))), fun h => (H6.out (h.resolve_right (by decide))), fun h => (H7.out (h.resolve_right (by decide))), fun h => (H8.out (h.resolve_right (by decide))), fun h => (H9.out (h.resolve_right (by decide))), fun h => .inl (g2_1 (h.resolve_right (by decide))), fun _ => .inr rfl, fun h => .inl (g7_6 (h.resolve_right (by decide))), fun h => .inl (g8_7 (h.resolve_right (by decide))), fun h => .inl (g9_5 (h.resolve_right (by decide))), fun h => .inl (g9_8 (h.resolve_right (by decide)))⟩⟩
      | 5, hi, hA =>
        obtain rfl := Option.some.inj hi
        clear hi
        by_cases hlast : D 10
        case pos =>
          exact absurd (hJ.1 hlast) (fun h => (by obtain ⟨_, _, _, _, _, _, _, _, _, _, _, _, hfin⟩ := h; exact hD (hfin.1 5 (by decide))))
        obtain ⟨s28, s29, s30, s31, s32, s33, s34, s35, s36, s37, s38, rfl, hb, h0, h1, h2, h3, h4, h5, h6, h7, h8, h9, g2_1, g5_4, g7_6, g8_7, g9_5, g9_8⟩ := hJ.2 hlast
        clear hJ
        have d4 := after_of hA 4 (by decide +kernel)
        clear hA
        obtain rfl := h4 d4
        have hcall := clip_any bn neg.length kn hkn w'
        have H0 := Lib.hid h0; have H1 := Lib.hid h1; have H2 := Lib.hid h2; have H3 := Lib.hid h3; have H4 := Lib.hid h4; have H5 := Lib.hid h5; have H6 := Lib.hid h6; have H7 := Lib.hid h7; have H8 := Lib.hid h8; have H9 := Lib.hid h9; have Hb := Lib.hid hb; have HD := Lib.hid hD; clear hb hD h0 h1 h2 h3 h4 h5 h6 h7 h8 h9
        go_wp2_with (go_at_call 45; refine hcall.mono ?_; rintro e u ⟨rfl, hu⟩; subst hu)
        rw [HJ.out]
        exact ⟨fun h => absurd (h.resolve_right (by decide)) hlast, fun _ => ⟨_, _, _, _, _, _, _, _, _, _, _, rfl, Hb.out, fun h => (H0.out (h.resolve_right (by decide))), fun h => (H1.out (h.resolve_right (by decide))), fun h => (H2.out (h.resolve_right (by decide))), fun h => (H3.out (h.resolve_right (by decide))), fun _ => rfl, fun _ => rfl, fun h => (H6.out (h.resolve_right (by decide))), fun h => (H7.out (h.resolve_right (by decide))), fun h => (H8.out (h.resolve_right (by decide))), fun h => (H9.out (h.resolve_right (by decide))), fun h => .inl (g2_1 (h.resolve_right (by decide))), fun _ => .inl d4, fun h => .inl (g7_6 (h.resolve_right (by decide))), fun h => .inl (g8_7 (h.resolve_right (by decide))), fun _ => .inr rfl, fun h => .inl (g9_8 (h.resolve_right (by decide)))⟩⟩
      | 6, hi, hA =>
        obtain rfl := Option.some.inj hi
        clear hi
        by_cases hlast : D 10
        case pos =>
          exact absurd (hJ.1 hlast) (fun h => (by obtain ⟨_, _, _, _, _, _, _, _, _, _, _, _, hfin⟩ := h; exact hD (hfin.1 6 (by decide))))
        obtain ⟨s28, s29, s30, s31, s32, s33, s34, s35, s36, s37, s38, rfl, hb, h0, h1, h2, h3, h4, h5, h6, h7, h8, h9, g2_1, g5_4, g7_6, g8_7, g9_5, g9_8⟩ := hJ.2 hlast
        clear hJ
        clear hA
        have H0 := Lib.hid h0; have H1 := Lib.hid h1; have H2 := Lib.hid h2; have H3 := Lib.hid h3; have H4 := Lib.hid h4; have H5 := Lib.hid h5; have H6 := Lib.hid h6; have H7 := Lib.hid h7; have H8 := Lib.hid h8; have H9 := Lib.hid h9; have Hb := Lib.hid hb; have HD := Lib.hid hD; clear hb hD h0 h1 h2 h3 h4 h5 h6 h7 h8 h9
        go_wp2
        rw [HJ.out]
        exact ⟨fun h => absurd (h.resolve_right (by decide)) hlast, fun _ => ⟨_, _, _, _, _, _, _, _, _, _, _, rfl, Hb.out, fun h => (H0.out (h.resolve_right (by decide))), fun h => (H1.out (h.resolve_right (by decide))), fun h => (H2.out (h.resolve_right (by decide))), fun h => (H3.out (h.resolve_right (by decide))), fun h => (H4.out (h.resolve_right (by decide))), fun h => (H5.out (h.resolve_right (by decide))), fun _ => rfl, fun h => (H7.out (h.resolve_right (by decide))), fun h => (H8.out (h.resolve_right (by decide))), fun h => (H9.out (h.resolve_right (by decide))), fun h => .inl (g2_1 (h.resolve_right (by decide))), fun h => .inl (g5_4 (h.resolve_right (by decide))), fun _ => .inr rfl, fun h => .inl (g8_7 (h.resolve_right (by decide))), fun h => .inl (g9_5 (h.resolve_right (by decide))), fun h => .inl (g9_8 (h.resolve_right (by decide)))⟩⟩
      | 7, hi, hA =>
        obtain rfl := Option.some.inj hi
        clear hi
        by_cases hlast : D 10
        case pos =>
          exact absurd (hJ.1 hlast) (fun h => (by obtain ⟨_, _, _, _, _, _, _, _, _, _, _, _, hfin⟩ := h; exact hD (hfin.1 7 (by decide))))
        obtain ⟨s28, s29, s30, s31, s32, s33, s34, s35, s36, s37, s38, rfl, hb, h0, h1, h2, h3, h4, h5, h6, h7, h8, h9, g2_1, g5_4, g7_6, g8_7, g9_5, g9_8⟩ := hJ.2 hlast
        clear hJ
        have d6 := after_of hA 6 (by decide +kernel)
        clear hA
        obtain rfl := h6 d6
        have hcl := (cell_at (hb.block _ hnbl)).trans (cellsT Hnew.out).1
        have H0 := Lib.hid h0; have H1 := Lib.hid h1; have H2 := Lib.hid h2; have H3 := Lib.hid h3; have H4 := Lib.hid h4; have H5 := Lib.hid h5; have H6 := Lib.hid h6; have H7 := Lib.hid h7; have H8 := Lib.hid h8; have H9 := Lib.hid h9; have Hb := Lib.hid hb; have HD := Lib.hid hD; clear hb hD h0 h1 h2 h3 h4 h5 h6 h7 h8 h9
        go_wp2
        rw [HJ.out]
        exact ⟨fun h => absurd (h.resolve_right (by decide)) hlast, fun _ => ⟨_, _, _, _, _, _, _, _, _, _, _, rfl, Hb.out, fun h => (H0.out (h.resolve_right (by decide))), fun h => (H1.out (h.resolve_right (by decide))), fun h => (H2.out (h.resolve_right (by decide))), fun h => (H3.out (h.resolve_right (by decide))), fun h => (H4.out (h.resolve_right (by decide))), fun h => (H5.out (h.resolve_right (by decide))), fun _ => rfl, fun _ => rfl, fun h => (H8.out (h.resolve_right (by decide))), fun h => (H9.out (h.resolve_right (by decide))), fun h => .inl (g2_1 (h.resolve_right (by decide))), fun h => .inl (g5_4 (h.resolve_right (by decide))), fun _ => .inl d6, fun _ => .inr rfl, fun h => .inl (g9_5 (h.resolve_right (by decide))), fun h => .inl (g9_8 (h.resolve_right (by decide)))⟩⟩
      | 8, hi, hA =>
        obtain rfl := Option.some.inj hi
        clear hi
        by_cases hlast : D 10
        case pos =>
          exact absurd (hJ.1 hlast) (fun h => (by obtain ⟨_, _, _, _, _, _, _, _, _, _, _, _, hfin⟩ := h; exact hD (hfin.1 8 (by decide))))
        obtain ⟨s28, s29, s30, s31, s32, s33, s34, s35, s36, s37, s38, rfl, hb, h0, h1, h2, h3, h4, h5, h6, h7, h8, h9, g2_1, g5_4, g7_6, g8_7, g9_5, g9_8⟩ := hJ.2 hlast
        clear hJ
        have d7 := after_of hA 7 (by decide +kernel)
        clear hA
        obtain rfl := h7 d7
        have H0 := Lib.hid h0; have H1 := Lib.hid h1; have H2 := Lib.hid h2; have H3 := Lib.hid h3; have H4 := Lib.hid h4; have H5 := Lib.hid h5; have H6 := Lib.hid h6; have H7 := Lib.hid h7; have H8 := Lib.hid h8; have H9 := Lib.hid h9; have Hb := Lib.hid hb; have HD := Lib.hid hD; clear hb hD h0 h1 h2 h3 h4 h5 h6 h7 h8 h9
        go_wp2
        have Hq := Lib.hid ((Below.refl w'.heap.size w').alloc (Nat.le_refl _) (.cells #[.int .i64 l] 3))
        rw [HJ.out]
        exact ⟨fun h => absurd (h.resolve_right (by decide)) hlast, fun _ => ⟨_, _, _, _, _, _, _, _, _, _, _, rfl, Hb.out.trans (Hq.out.mono Hb.out.size), fun h => (H0.out (h.resolve_right (by decide))), fun h => (H1.out (h.resolve_right (by decide))), fun h => (H2.out (h.resolve_right (by decide))), fun h => (H3.out (h.resolve_right (by decide))), fun h => (H4.out (h.resolve_right (by decide))), fun h => (H5.out (h.resolve_right (by decide))), fun h => (H6.out (h.resolve_right (by decide))), fun _ => rfl, fun _ => ⟨_, rfl, heap_alloc_new _ _⟩, fun h => ((H9.out (h.resolve_right (by decide)))).below Hq.out, fun h => .inl (g2_1 (h.resolve_right (by decide))), fun h => .inl (g5_4 (h.resolve_right (by decide))), fun h => .inl (g7_6 (h.resolve_right (by decide))), fun _ => .inl d7, fun h => .inl (g9_5 (h.resolve_right (by decide))), fun _ => .inr rfl⟩⟩
      | 9, hi, hA =>
        obtain rfl := Option.some.inj hi
        clear hi
        by_cases hlast : D 10
        case pos =>
          exact absurd (hJ.1 hlast) (fun h => (by obtain ⟨_, _, _, _, _, _, _, _, _, _, _, _, hfin⟩ := h; exact hD (hfin.1 9 (by decide))))
        obtain ⟨s28, s29, s30, s31, s32, s33, s34, s35, s36, s37, s38, rfl, hb, h0, h1, h2, h3, h4, h5, h6, h7, h8, h9, g2_1, g5_4, g7_6, g8_7, g9_5, g9_8⟩ := hJ.2 hlast
        clear hJ
        have d5 := after_of hA 5 (by decide +kernel)
        have d8 := after_of hA 8 (by decide +kernel)
        clear hA
        obtain rfl := h5 d5
        obtain ⟨g, rfl, hg⟩ := h8 d8
        have Hg := Lib.hid (OneI.rc hg)
        have Hg2 := Lib.hid hg
        clear hg
        obtain ⟨_, _, e0, _, hrt⟩ := (id (HN1.out.below hb) : I3 w' (.slice bn neg.length kn) neg)
        cases e0
        have Hrt := Lib.hid hrt; clear hrt
        have hl0 : neg.length + 1 ≤ 67108864 := by omega
        have hl1 : neg.length < neg.length + 1 := by omega
        have H0 := Lib.hid h0; have H1 := Lib.hid h1; have H2 := Lib.hid h2; have H3 := Lib.hid h3; have H4 := Lib.hid h4; have H5 := Lib.hid h5; have H6 := Lib.hid h6; have H7 := Lib.hid h7; have H8 := Lib.hid h8; have H9 := Lib.hid h9; have Hb := Lib.hid hb; have HD := Lib.hid hD; clear hb hD h0 h1 h2 h3 h4 h5 h6 h7 h8 h9
        go_wp2_with (at_builtin; go_loud (refine wpList_append_rc rfl (.tmp 33) (.tmp 36) 44 rfl 3 (by kernel_rfl) int_info (by decide) _ bn (some ⟨g, 0, none⟩) neg.length 1 neg.length 1 (ic neg) (ic [(l : Int)]) rfl rfl Hrt.out.rc Hg.out (ic_one _) (Nat.le_refl _) (.inr hl1) hl0 ?_; intro A' c' w2 q1 q2 q3 q4; have Hq2 := Lib.hid (q2 Hrt.out); have Hq3 := Lib.hid q3; have Hq := Lib.hid q4; clear q1 q2 q3 q4))
        rw [HJ.out]
        exact ⟨fun h => absurd (h.resolve_right (by decide)) hlast, fun _ => ⟨_, _, _, _, _, _, _, _, _, _, _, rfl, Hb.out.trans (Hq.out.mono Hb.out.size), fun h => (H0.out (h.resolve_right (by decide))), fun h => (H1.out (h.resolve_right (by decide))), fun h => (H2.out (h.resolve_right (by decide))), fun h => (H3.out (h.resolve_right (by decide))), fun h => (H4.out (h.resolve_right (by decide))), fun _ => rfl, fun h => (H6.out (h.resolve_right (by decide))), fun h => (H7.out (h.resolve_right (by decide))), fun h => ((H8.out (h.resolve_right (by decide)))).below Hq.out, fun _ => ⟨A', c', by rw [List.length_append]; rfl, by rw [List.length_append]; exact Hq3.out, by rw [List.length_append]; simpa [ic] using Hq2.out⟩, fun h => .inl (g2_1 (h.resolve_right (by decide))), fun h => .inl (g5_4 (h.resolve_right (by decide))), fun h => .inl (g7_6 (h.resolve_right (by decide))), fun h => .inl (g8_7 (h.resolve_right (by decide))), fun _ => .inl d5, fun _ => .inl d8⟩⟩
      | 10, hi, hA =>
        obtain rfl := Option.some.inj hi
        clear hi
        obtain ⟨s28, s29, s30, s31, s32, s33, s34, s35, s36, s37, s38, rfl, hb, h0, h1, h2, h3, h4, h5, h6, h7, h8, h9, g2_1, g5_4, g7_6, g8_7, g9_5, g9_8⟩ := hJ.2 hD
        clear hJ
        have d0 := after_of hA 0 (by decide +kernel)
        have d2 := after_of hA 2 (by decide +kernel)
        have d9 := after_of hA 9 (by decide +kernel)
        have d3 := after_of hA 3 (by decide +kernel)
        clear hA
        obtain rfl := h0 d0
        obtain rfl := h2 d2
        obtain rfl := h3 d3
        have hcall := Ihk.out _ _ _ w' (H1.out.below hb) (HP1.out.below hb) (h9 d9)
        have H0 := Lib.hid h0; have H1 := Lib.hid h1; have H2 := Lib.hid h2; have H3 := Lib.hid h3; have H4 := Lib.hid h4; have H5 := Lib.hid h5; have H6 := Lib.hid h6; have H7 := Lib.hid h7; have H8 := Lib.hid h8; have H9 := Lib.hid h9; have Hb := Lib.hid hb; have HD := Lib.hid hD; clear hb hD h0 h1 h2 h3 h4 h5 h6 h7 h8 h9
        go_wp2_with (go_at_call 43; refine hcall.mono ?_; rintro e w2 ⟨VP2, v2, rfl, hI2, hf2⟩; have HI2 := Lib.hid hI2; have Hf2 := Lib.hid hf2; clear hI2 hf2)
        rw [HJ.out]
        exact ⟨fun _ => ⟨_, _, _, _, _, _, _, _, _, _, _, rfl, (fun k hk => match k, hk with | 0, _ => .inl d0 | 1, _ => .inl (g2_1 d2) | 2, _ => .inl d2 | 3, _ => .inl d3 | 4, _ => .inl (g5_4 (g9_5 d9)) | 5, _ => .inl (g9_5 d9) | 6, _ => .inl (g7_6 (g8_7 (g9_8 d9))) | 7, _ => .inl (g8_7 (g9_8 d9)) | 8, _ => .inl (g9_8 d9) | 9, _ => .inl d9 | 10, _ => .inr rfl | n + 11, h => absurd h (by omega)), _, _, HI2.out, (Fr.of_below Hb.out).trans Hf2.out⟩, fun h => absurd (.inr rfl) h⟩
      | n + 11, hi, hA => cases hi
    · intro D ac w' hall hJ
      rw [HJ.out] at hJ
      obtain ⟨s28, s29, s30, s31, s32, s33, s34, s35, s36, s37, s38, rfl, hfin⟩ := hJ.1 (hall 10 (by decide))
      have hd : ∀ i, i < 11 → D i := hall
      clear hall
      obtain ⟨-, VP2, v2, hI2, hf2⟩ := hfin
      have HI2 := Lib.hid hI2; have Hf2 := Lib.hid (Hf1.out.trans hf2)
      clear HJ hJ J hd hI2 hf2
      go_end0
      exact HF.out _ _ _ HI2.out Hf2.out
end Go.Proofs.Ytkppcibffbnhoaa
