/-
  The walk of LiteralsSets.
-/
import Derived.Test.YtejiagmfinhjbaaOc
namespace Go.Proofs.Ytejiagmfinhjbaa
open Go.RowKit Go.Ident Go.Names

theorem validB (c : Bool) (p : Option Addr) (k : Nat) (L : List Nm) (hA : ascD L = true) (hl : L.length ≤ 10000) (w : World) (hS : SL w p L) :
    Calls Try.prog 24 #[.agg #[.bool c, .slice p L.length k]] w fun e w' => e = .returned (.bool true) ∧ Below w.heap.size w w' := by
  have := valid_any c p k L (by omega) w hS
  rw [hA] at this
  exact this
theorem sameS (c : Bool) (p1 : Option Addr) (k1 : Nat) (p2 : Option Addr) (k2 : Nat) (L : List Nm) (h : L.length ≤ 10000) (w : World) (s1 : SL w p1 L) (s2 : SL w p2 L) :
    Calls Try.prog 12 #[.agg #[.bool c, .slice p1 L.length k1], .agg #[.bool c, .slice p2 L.length k2]] w fun e w' => e = .returned (.bool true) ∧ Below w.heap.size w w' := by
  have := sameB c p1 k1 L h c p2 k2 L h w s1 s2
  rw [decide_eq_true (show c = c ∧ L = L from ⟨rfl, rfl⟩)] at this
  exact this
set_option maxRecDepth 100000 in
set_option maxHeartbeats 64000000 in
theorem sets_walk (c1 : Bool) (p1 : Option Addr) (k1 : Nat) (L1 : List Nm) (c2 : Bool) (p2 : Option Addr) (k2 : Nat) (L2 : List Nm) (S : Nm) (w : World) (hS1 : SL w p1 L1) (hS2 : SL w p2 L2) :
    Calls Try.prog 7 #[.agg #[.bool c1, .slice p1 L1.length k1], .agg #[.bool c2, .slice p2 L2.length k2], .string (toB S)] w fun e w' => e = .returned (.bool true) ∧ Below w.heap.size w w' := by
  have al : ∀ (w : World) (o : Obj), Below w.heap.size w (w.alloc o) := fun w o => (Below.refl _ _).alloc (Nat.le_refl _) o
  have hb0 : Below w.heap.size w ((w.alloc (.cells #[.bool c1, .slice p1 L1.length k1] 25)).alloc (.cells #[.bool c2, .slice p2 L2.length k2] 25)) := below_alloc (al w _) _
  have hs0 : ((w.alloc (.cells #[.bool c1, .slice p1 L1.length k1] 25)).alloc (.cells #[.bool c2, .slice p2 L2.length k2] 25)).heap.size = w.heap.size + 2 := by simp
  have hr0 := two_row0 w (.cells #[.bool c1, .slice p1 L1.length k1] 25) (.cells #[.bool c2, .slice p2 L2.length k2] 25)
  have hr1 := two_row1 w (.cells #[.bool c1, .slice p1 L1.length k1] 25) (.cells #[.bool c2, .slice p2 L2.length k2] 25)
  have HS1 := Lib.hid (hS1.below hb0); have HS2 := Lib.hid (hS2.below hb0); have Hb0 := Lib.hid hb0
  clear hS1 hS2 hb0
  go_enter Try.func7, Try.ntmps7
  go_upto_region 1 with fail
  generalize (w.alloc (.cells #[.bool c1, .slice p1 L1.length k1] 25)).alloc (.cells #[.bool c2, .slice p2 L2.length k2] 25) = wb at *
  have Hlt0 := Lib.hid (show w.heap.size < wb.heap.size by omega)
  have Hlt1 := Lib.hid (show w.heap.size + 1 < wb.heap.size by omega)
  have y0 : wb.cell? ⟨w.heap.size, 0, none⟩ = some (.bool c1) := cell_of_row _ _ _ _ _ _ hr0
  have y1 : wb.cell? ⟨w.heap.size, 1, none⟩ = some (.slice p1 L1.length k1) := cell_of_row _ _ _ _ _ _ hr0
  have y2 : wb.cell? ⟨w.heap.size + 1, 0, none⟩ = some (.bool c2) := cell_of_row _ _ _ _ _ _ hr1
  have y3 : wb.cell? ⟨w.heap.size + 1, 1, none⟩ = some (.slice p2 L2.length k2) := cell_of_row _ _ _ _ _ _ hr1
  have Hr0 := Lib.hid hr0; have Hr1 := Lib.hid hr1
  clear hr0 hr1 hs0
  have hal := al wb (.cells #[.bool c1, .slice p1 L1.length k1, .bool c2, .slice p2 L2.length k2] 25)
  have hsh := short2_any wb.heap.size 0 L1.length L2.length 2 p1 p2 k1 k2 (wb.alloc (.cells #[.bool c1, .slice p1 L1.length k1, .bool c2, .slice p2 L2.length k2] 25)) (cell_of_row _ _ _ _ _ _ (heap_alloc_new _ _)) (cell_of_row _ _ _ _ _ _ (heap_alloc_new _ _))
  have HB1 := Lib.hid hal
  clear hal
  by_cases h40 : L1.length ≤ 40 ∧ L2.length ≤ 40
  · rw [decide_eq_true h40] at hsh
    go_upto_region 3 with (first
      | (go_at_call 14; refine hsh.mono ?_; rintro e w1' ⟨rfl, hw1⟩; subst hw1))
    clear y0 y1 y2 y3 hsh
    have HS1' := Lib.hid (HS1.out.below HB1.out); have HS2' := Lib.hid (HS2.out.below HB1.out)
    have Hr0' := Lib.hid (row_keep HB1.out Hlt0.out Hr0.out); have Hr1' := Lib.hid (row_keep HB1.out Hlt1.out Hr1.out)
    have Hlt0' := Lib.hid (Nat.lt_of_lt_of_le Hlt0.out HB1.out.size); have Hlt1' := Lib.hid (Nat.lt_of_lt_of_le Hlt1.out HB1.out.size)
    have Hb1 := Lib.hid (Hb0.out.trans (HB1.out.mono Hb0.out.size))
    clear HS1 HS2 Hr0 Hr1 Hlt0 Hlt1 Hb0
    obtain ⟨xb, hxb⟩ : ∃ xb, xb = wb.heap.size := ⟨_, rfl⟩
    rw [← hxb]
    clear hxb HB1
    generalize wb.alloc (.cells #[.bool c1, .slice p1 L1.length k1, .bool c2, .slice p2 L2.length k2] 25) = w1 at *
    have HU : Hid (∀ w', Below w1.heap.size w1 w' → Calls Try.prog 11 #[.agg #[.bool c1, .slice p1 L1.length k1], .agg #[.bool c2, .slice p2 L2.length k2]] w' (NA w' (c1 || c2) (uniL c1 L1 c2 L2))) := Lib.hid fun w' hb => (union_any c1 p1 k1 L1 (by omega) c2 p2 k2 L2 (by omega) w' (HS1'.out.below hb) (HS2'.out.below hb)).mono fun e w' h => by rw [cU] at h; exact h
    have HI : Hid (∀ w', Below w1.heap.size w1 w' → Calls Try.prog 13 #[.agg #[.bool c1, .slice p1 L1.length k1], .agg #[.bool c2, .slice p2 L2.length k2]] w' (NA w' (c1 && c2) (nrm (interL c1 L1 c2 L2)))) := Lib.hid fun w' hb => intersect_any c1 p1 k1 L1 (by omega) c2 p2 k2 L2 (by omega) w' (HS1'.out.below hb) (HS2'.out.below hb)
    have HC : Hid (∀ w', Below w1.heap.size w1 w' → Calls Try.prog 10 #[.agg #[.bool c1, .slice p1 L1.length k1]] w' (NA w' (!c1) (nrm L1))) := Lib.hid fun w' hb => complement_any c1 p1 k1 L1 (by omega) w' (HS1'.out.below hb)
    have hx1 := fun (w : World) (h : SL w p1 L1) => hasName_any c1 p1 k1 L1 S (by omega) w h
    have hx2 := fun (w : World) (h : SL w p2 L2) => hasName_any c2 p2 k2 L2 S (by omega) w h
    have hvU := fun (p : Option Addr) (k : Nat) => validB (c1 || c2) p k _ (asc_uni c1 L1 c2 L2) (Nat.le_trans (uni_len c1 L1 c2 L2) (by omega))
    have hvI := fun (p : Option Addr) (k : Nat) => validB (c1 && c2) p k _ (asc_nrm (interL c1 L1 c2 L2)) (Nat.le_trans (int_len c1 L1 c2 L2) (by omega))
    have hvC := fun (p : Option Addr) (k : Nat) => validB (!c1) p k _ (asc_nrm L1) (Nat.le_trans (nrm_len L1) (by omega))
    have hcU : ∀ (p : Option Addr) (k : Nat) (w : World), SL w p (uniL c1 L1 c2 L2) → Calls Try.prog 20 #[.agg #[.bool (c1 || c2), .slice p (uniL c1 L1 c2 L2).length k], .string (toB S)] w fun e w' => e = .returned (.bool (has c1 L1 S || has c2 L2 S)) ∧ Below w.heap.size w w' := fun p k w h => by
      have := contains20_any (c1 || c2) p k _ S (Nat.le_trans (uni_len c1 L1 c2 L2) (by omega)) w h
      rw [has_uni] at this
      exact this
    have hcI : ∀ (p : Option Addr) (k : Nat) (w : World), SL w p (nrm (interL c1 L1 c2 L2)) → Calls Try.prog 20 #[.agg #[.bool (c1 && c2), .slice p (nrm (interL c1 L1 c2 L2)).length k], .string (toB S)] w fun e w' => e = .returned (.bool (has c1 L1 S && has c2 L2 S)) ∧ Below w.heap.size w w' := fun p k w h => by
      have := contains20_any (c1 && c2) p k _ S (Nat.le_trans (int_len c1 L1 c2 L2) (by omega)) w h
      rw [has_int] at this
      exact this
    have hcC : ∀ (p : Option Addr) (k : Nat) (w : World), SL w p (nrm L1) → Calls Try.prog 20 #[.agg #[.bool (!c1), .slice p (nrm L1).length k], .string (toB S)] w fun e w' => e = .returned (.bool (!has c1 L1 S)) ∧ Below w.heap.size w w' := fun p k w h => by
      have := contains20_any (!c1) p k _ S (Nat.le_trans (nrm_len L1) (by omega)) w h
      rw [has_not, has_nrm] at this
      exact this
    have hrU := runiB c1 p1 k1 L1 (by omega) c2 p2 k2 L2 (by omega)
    have hrI := rintB c1 p1 k1 L1 (by omega) c2 p2 k2 L2 (by omega)
    have hsU := fun (p1 : Option Addr) (k1 : Nat) (p2 : Option Addr) (k2 : Nat) => sameS (c1 || c2) p1 k1 p2 k2 _ (Nat.le_trans (uni_len c1 L1 c2 L2) (by omega))
    have hsI := fun (p1 : Option Addr) (k1 : Nat) (p2 : Option Addr) (k2 : Nat) => sameS (c1 && c2) p1 k1 p2 k2 _ (Nat.le_trans (int_len c1 L1 c2 L2) (by omega))
    clear h40
    generalize uniL c1 L1 c2 L2 = MU at *
    generalize nrm (interL c1 L1 c2 L2) = MI at *
    generalize nrm L1 = MC at *
    generalize (c1 || c2) = CU at *
    generalize (c1 && c2) = CI at *
    generalize (!c1) = CC at *
    generalize has c1 L1 S = X1 at *
    generalize has c2 L2 S = X2 at *
    obtain ⟨J, hJd⟩ : ∃ J : (Nat → Prop) → Act → World → Prop, J = fun D a w' => ∃ (f : Nat → Nat) (s18 s19 s20 s21 s22 s23 s24 s25 s7 s8 s9 : Value), a = ⟨((.agg #[.bool c1, .slice p1 L1.length k1]) :: (.agg #[.bool c2, .slice p2 L2.length k2]) :: (.string (toB S)) :: (.pointer (some ⟨w.heap.size, 0, none⟩)) :: (.pointer (some ⟨w.heap.size + 1, 0, none⟩)) :: undef :: (.bool false) :: s7 :: s8 :: s9 :: undef :: undef :: (.agg #[.bool c1, .slice p1 L1.length k1]) :: (.agg #[.bool c2, .slice p2 L2.length k2]) :: (.slice (some ⟨xb, 0, none⟩) 2 2) :: (.bool true) :: (.bool false) :: undef :: s18 :: s19 :: s20 :: s21 :: s22 :: s23 :: s24 :: s25 :: undef :: undef :: undef :: undef :: undef :: undef :: undef :: undef :: undef :: undef :: undef :: undef :: undef :: undef :: undef :: undef :: undef :: undef :: undef :: undef :: undef :: undef :: undef :: undef :: undef :: undef :: undef :: undef :: undef :: undef :: undef :: undef :: undef :: undef :: undef :: undef :: undef :: undef :: undef :: undef :: undef :: undef :: undef :: undef :: undef :: undef :: undef :: undef :: undef :: undef :: undef :: undef :: undef :: undef :: undef :: undef :: undef :: undef :: undef :: undef :: undef :: []).toArray, []⟩ ∧ Below w1.heap.size w1 w' ∧ (D 0 → s18 = (.agg #[.bool c1, .slice p1 L1.length k1])) ∧ (D 1 → s19 = (.agg #[.bool c2, .slice p2 L2.length k2])) ∧ (D 2 → NR f 2 w' CU MU s20) ∧ (D 3 → s21 = (.agg #[.bool c1, .slice p1 L1.length k1])) ∧ (D 4 → s22 = (.agg #[.bool c2, .slice p2 L2.length k2])) ∧ (D 5 → NR f 5 w' CI MI s23) ∧ (D 6 → s24 = (.agg #[.bool c1, .slice p1 L1.length k1])) ∧ (D 7 → NR f 7 w' CC MC s25) ∧ (D 8 → CR f w1.heap.size 8 25 w' s7 fun cs => D 11 → s20 = .agg cs) ∧ (D 9 → CR f w1.heap.size 9 25 w' s8 fun cs => D 12 → s23 = .agg cs) ∧ (D 10 → CR f w1.heap.size 10 25 w' s9 fun cs => D 13 → s25 = .agg cs) ∧ (D 11 → D 8) ∧ (D 11 → D 2) ∧ (D 12 → D 9) ∧ (D 12 → D 5) ∧ (D 13 → D 10) ∧ (D 13 → D 7) := ⟨_, rfl⟩
    have HJ := Lib.hid hJd; clear hJd
    refine Inv.wp_region_inv J (by kernel_rfl) (by decide +kernel) ?_ ?_ ?_
    · rw [HJ.out]
      exact ⟨fun _ => 0, _, _, _, _, _, _, _, _, _, _, _, rfl, (Below.refl _ _).drew, fun h => h.elim, fun h => h.elim, fun h => h.elim, fun h => h.elim, fun h => h.elim, fun h => h.elim, fun h => h.elim, fun h => h.elim, fun h => h.elim, fun h => h.elim, fun h => h.elim, fun h => h.elim, fun h => h.elim, fun h => h.elim, fun h => h.elim, fun h => h.elim, fun h => h.elim⟩
    · intro i o hi D a w' hD hA hJ
      rw [HJ.out] at hJ
      obtain ⟨f, s18, s19, s20, s21, s22, s23, s24, s25, s7, s8, s9, rfl, hb, h0, h1, h2, h3, h4, h5, h6, h7, h8, h9, h10, g11_8, g11_2, g12_9, g12_5, g13_10, g13_7⟩ := hJ
      match i, hi, hA with
      | 0, hi, hA =>
        obtain rfl := Option.some.inj hi
        clear hi
        clear hA
        have hrow := row_keep hb Hlt0'.out Hr0'.out
        clear hD
        have H0 := Lib.hid h0; have H1 := Lib.hid h1; have H2 := Lib.hid h2; have H3 := Lib.hid h3; have H4 := Lib.hid h4; have H5 := Lib.hid h5; have H6 := Lib.hid h6; have H7 := Lib.hid h7; have H8 := Lib.hid h8; have H9 := Lib.hid h9; have H10 := Lib.hid h10; have Hb := Lib.hid hb; clear hb h0 h1 h2 h3 h4 h5 h6 h7 h8 h9 h10
        go_wp2_with ((with_reducible refine at_load ?_); refine wpList_load_row rfl 25 (.tmp 3) rfl _ rfl _ _ (0, 0) _ hrow rfl rfl (by kernel_rfl) ?_)
        rw [HJ.out]
        exact ⟨f, _, _, _, _, _, _, _, _, _, _, _, rfl, Hb.out, fun _ => rfl, fun h => H1.out (h.resolve_right (by decide)), fun h => H2.out (h.resolve_right (by decide)), fun h => H3.out (h.resolve_right (by decide)), fun h => H4.out (h.resolve_right (by decide)), fun h => H5.out (h.resolve_right (by decide)), fun h => H6.out (h.resolve_right (by decide)), fun h => H7.out (h.resolve_right (by decide)), fun h => (H8.out (h.resolve_right (by decide))).mono fun cs hc h' => hc (h'.resolve_right (by decide)), fun h => (H9.out (h.resolve_right (by decide))).mono fun cs hc h' => hc (h'.resolve_right (by decide)), fun h => (H10.out (h.resolve_right (by decide))).mono fun cs hc h' => hc (h'.resolve_right (by decide)), fun h => .inl (g11_8 (h.resolve_right (by decide))), fun h => .inl (g11_2 (h.resolve_right (by decide))), fun h => .inl (g12_9 (h.resolve_right (by decide))), fun h => .inl (g12_5 (h.resolve_right (by decide))), fun h => .inl (g13_10 (h.resolve_right (by decide))), fun h => .inl (g13_7 (h.resolve_right (by decide)))⟩
      | 1, hi, hA =>
        obtain rfl := Option.some.inj hi
        clear hi
        clear hA
        have hrow := row_keep hb Hlt1'.out Hr1'.out
        clear hD
        have H0 := Lib.hid h0; have H1 := Lib.hid h1; have H2 := Lib.hid h2; have H3 := Lib.hid h3; have H4 := Lib.hid h4; have H5 := Lib.hid h5; have H6 := Lib.hid h6; have H7 := Lib.hid h7; have H8 := Lib.hid h8; have H9 := Lib.hid h9; have H10 := Lib.hid h10; have Hb := Lib.hid hb; clear hb h0 h1 h2 h3 h4 h5 h6 h7 h8 h9 h10
        go_wp2_with ((with_reducible refine at_load ?_); refine wpList_load_row rfl 25 (.tmp 4) rfl _ rfl _ _ (0, 0) _ hrow rfl rfl (by kernel_rfl) ?_)
        rw [HJ.out]
        exact ⟨f, _, _, _, _, _, _, _, _, _, _, _, rfl, Hb.out, fun h => H0.out (h.resolve_right (by decide)), fun _ => rfl, fun h => H2.out (h.resolve_right (by decide)), fun h => H3.out (h.resolve_right (by decide)), fun h => H4.out (h.resolve_right (by decide)), fun h => H5.out (h.resolve_right (by decide)), fun h => H6.out (h.resolve_right (by decide)), fun h => H7.out (h.resolve_right (by decide)), fun h => (H8.out (h.resolve_right (by decide))).mono fun cs hc h' => hc (h'.resolve_right (by decide)), fun h => (H9.out (h.resolve_right (by decide))).mono fun cs hc h' => hc (h'.resolve_right (by decide)), fun h => (H10.out (h.resolve_right (by decide))).mono fun cs hc h' => hc (h'.resolve_right (by decide)), fun h => .inl (g11_8 (h.resolve_right (by decide))), fun h => .inl (g11_2 (h.resolve_right (by decide))), fun h => .inl (g12_9 (h.resolve_right (by decide))), fun h => .inl (g12_5 (h.resolve_right (by decide))), fun h => .inl (g13_10 (h.resolve_right (by decide))), fun h => .inl (g13_7 (h.resolve_right (by decide)))⟩
      | 2, hi, hA =>
        obtain rfl := Option.some.inj hi
        clear hi
        have d0 := after_of hA 0 (by decide +kernel)
        have d1 := after_of hA 1 (by decide +kernel)
        clear hA
        obtain rfl := h0 d0
        obtain rfl := h1 d1
        have hcall := HU.out w' hb
        have H0 := Lib.hid h0; have H1 := Lib.hid h1; have H2 := Lib.hid h2; have H3 := Lib.hid h3; have H4 := Lib.hid h4; have H5 := Lib.hid h5; have H6 := Lib.hid h6; have H7 := Lib.hid h7; have H8 := Lib.hid h8; have H9 := Lib.hid h9; have H10 := Lib.hid h10; have Hb := Lib.hid hb; have HD := Lib.hid hD; clear hb hD h0 h1 h2 h3 h4 h5 h6 h7 h8 h9 h10
        have hsz := Lib.hid Hb.out.size
        go_wp2_with (go_at_call 11; refine hcall.mono ?_; rintro e w2 hna; obtain ⟨pq, capq, rfl, hq2, hq3, hq4⟩ := hna; have Hna := Lib.hid (show NA w' CU MU (.returned (.agg #[.bool CU, .slice pq MU.length capq])) w2 from ⟨pq, capq, rfl, hq2, hq3, hq4⟩); have Hq4 := Lib.hid hq4; clear hq2 hq3 hq4)
        rw [HJ.out]
        exact ⟨fu f w'.heap.size 2, _, _, _, _, _, _, _, _, _, _, _, rfl, Hb.out.trans (Hq4.out.mono hsz.out), fun _ => rfl, fun _ => rfl, fun _ => NR.new Hna.out, fun h => H3.out (h.resolve_right (by decide)), fun h => H4.out (h.resolve_right (by decide)), fun h => (H5.out (h.resolve_right (by decide))).grow Hq4.out, fun h => H6.out (h.resolve_right (by decide)), fun h => (H7.out (h.resolve_right (by decide))).grow Hq4.out, fun h => ((H8.out (h.resolve_right (by decide))).grow Hq4.out).mono fun cs hc h' => (HD.out (g11_2 (h'.resolve_right (by decide)))).elim, fun h => ((H9.out (h.resolve_right (by decide))).grow Hq4.out).mono fun cs hc h' => hc (h'.resolve_right (by decide)), fun h => ((H10.out (h.resolve_right (by decide))).grow Hq4.out).mono fun cs hc h' => hc (h'.resolve_right (by decide)), fun h => .inl (g11_8 (h.resolve_right (by decide))), fun _ => .inr rfl, fun h => .inl (g12_9 (h.resolve_right (by decide))), fun h => .inl (g12_5 (h.resolve_right (by decide))), fun h => .inl (g13_10 (h.resolve_right (by decide))), fun h => .inl (g13_7 (h.resolve_right (by decide)))⟩
      | 3, hi, hA =>
        obtain rfl := Option.some.inj hi
        clear hi
        clear hA
        have hrow := row_keep hb Hlt0'.out Hr0'.out
        clear hD
        have H0 := Lib.hid h0; have H1 := Lib.hid h1; have H2 := Lib.hid h2; have H3 := Lib.hid h3; have H4 := Lib.hid h4; have H5 := Lib.hid h5; have H6 := Lib.hid h6; have H7 := Lib.hid h7; have H8 := Lib.hid h8; have H9 := Lib.hid h9; have H10 := Lib.hid h10; have Hb := Lib.hid hb; clear hb h0 h1 h2 h3 h4 h5 h6 h7 h8 h9 h10
        go_wp2_with ((with_reducible refine at_load ?_); refine wpList_load_row rfl 25 (.tmp 3) rfl _ rfl _ _ (0, 0) _ hrow rfl rfl (by kernel_rfl) ?_)
        rw [HJ.out]
        exact ⟨f, _, _, _, _, _, _, _, _, _, _, _, rfl, Hb.out, fun h => H0.out (h.resolve_right (by decide)), fun h => H1.out (h.resolve_right (by decide)), fun h => H2.out (h.resolve_right (by decide)), fun _ => rfl, fun h => H4.out (h.resolve_right (by decide)), fun h => H5.out (h.resolve_right (by decide)), fun h => H6.out (h.resolve_right (by decide)), fun h => H7.out (h.resolve_right (by decide)), fun h => (H8.out (h.resolve_right (by decide))).mono fun cs hc h' => hc (h'.resolve_right (by decide)), fun h => (H9.out (h.resolve_right (by decide))).mono fun cs hc h' => hc (h'.resolve_right (by decide)), fun h => (H10.out (h.resolve_right (by decide))).mono fun cs hc h' => hc (h'.resolve_right (by decide)), fun h => .inl (g11_8 (h.resolve_right (by decide))), fun h => .inl (g11_2 (h.resolve_right (by decide))), fun h => .inl (g12_9 (h.resolve_right (by decide))), fun h => .inl (g12_5 (h.resolve_right (by decide))), fun h => .inl (g13_10 (h.resolve_right (by decide))), fun h => .inl (g13_7 (h.resolve_right (by decide)))⟩
      | 4, hi, hA =>
        obtain rfl := Option.some.inj hi
        clear hi
        clear hA
        have hrow := row_keep hb Hlt1'.out Hr1'.out
        clear hD
        have H0 := Lib.hid h0; have H1 := Lib.hid h1; have H2 := Lib.hid h2; have H3 := Lib.hid h3; have H4 := Lib.hid h4; have H5 := Lib.hid h5; have H6 := Lib.hid h6; have H7 := Lib.hid h7; have H8 := Lib.hid h8; have H9 := Lib.hid h9; have H10 := Lib.hid h10; have Hb := Lib.hid hb; clear hb h0 h1 h2 h3 h4 h5 h6 h7 h8 h9 h10
        go_wp2_with ((with_reducible refine at_load ?_); refine wpList_load_row rfl 25 (.tmp 4) rfl _ rfl _ _ (0, 0) _ hrow rfl rfl (by kernel_rfl) ?_)
        rw [HJ.out]
        exact ⟨f, _, _, _, _, _, _, _, _, _, _, _, rfl, Hb.out, fun h => H0.out (h.resolve_right (by decide)), fun h => H1.out (h.resolve_right (by decide)), fun h => H2.out (h.resolve_right (by decide)), fun h => H3.out (h.resolve_right (by decide)), fun _ => rfl, fun h => H5.out (h.resolve_right (by decide)), fun h => H6.out (h.resolve_right (by decide)), fun h => H7.out (h.resolve_right (by decide)), fun h => (H8.out (h.resolve_right (by decide))).mono fun cs hc h' => hc (h'.resolve_right (by decide)), fun h => (H9.out (h.resolve_right (by decide))).mono fun cs hc h' => hc (h'.resolve_right (by decide)), fun h => (H10.out (h.resolve_right (by decide))).mono fun cs hc h' => hc (h'.resolve_right (by decide)), fun h => .inl (g11_8 (h.resolve_right (by decide))), fun h => .inl (g11_2 (h.resolve_right (by decide))), fun h => .inl (g12_9 (h.resolve_right (by decide))), fun h => .inl (g12_5 (h.resolve_right (by decide))), fun h => .inl (g13_10 (h.resolve_right (by decide))), fun h => .inl (g13_7 (h.resolve_right (by decide)))⟩
      | 5, hi, hA =>
        obtain rfl := Option.some.inj hi
        clear hi
        have d3 := after_of hA 3 (by decide +kernel)
        have d4 := after_of hA 4 (by decide +kernel)
        clear hA
        obtain rfl := h3 d3
        obtain rfl := h4 d4
        have hcall := HI.out w' hb
        have H0 := Lib.hid h0; have H1 := Lib.hid h1; have H2 := Lib.hid h2; have H3 := Lib.hid h3; have H4 := Lib.hid h4; have H5 := Lib.hid h5; have H6 := Lib.hid h6; have H7 := Lib.hid h7; have H8 := Lib.hid h8; have H9 := Lib.hid h9; have H10 := Lib.hid h10; have Hb := Lib.hid hb; have HD := Lib.hid hD; clear hb hD h0 h1 h2 h3 h4 h5 h6 h7 h8 h9 h10
        have hsz := Lib.hid Hb.out.size
        go_wp2_with (go_at_call 13; refine hcall.mono ?_; rintro e w2 hna; obtain ⟨pq, capq, rfl, hq2, hq3, hq4⟩ := hna; have Hna := Lib.hid (show NA w' CI MI (.returned (.agg #[.bool CI, .slice pq MI.length capq])) w2 from ⟨pq, capq, rfl, hq2, hq3, hq4⟩); have Hq4 := Lib.hid hq4; clear hq2 hq3 hq4)
        rw [HJ.out]
        exact ⟨fu f w'.heap.size 5, _, _, _, _, _, _, _, _, _, _, _, rfl, Hb.out.trans (Hq4.out.mono hsz.out), fun h => H0.out (h.resolve_right (by decide)), fun h => H1.out (h.resolve_right (by decide)), fun h => (H2.out (h.resolve_right (by decide))).grow Hq4.out, fun _ => rfl, fun _ => rfl, fun _ => NR.new Hna.out, fun h => H6.out (h.resolve_right (by decide)), fun h => (H7.out (h.resolve_right (by decide))).grow Hq4.out, fun h => ((H8.out (h.resolve_right (by decide))).grow Hq4.out).mono fun cs hc h' => hc (h'.resolve_right (by decide)), fun h => ((H9.out (h.resolve_right (by decide))).grow Hq4.out).mono fun cs hc h' => (HD.out (g12_5 (h'.resolve_right (by decide)))).elim, fun h => ((H10.out (h.resolve_right (by decide))).grow Hq4.out).mono fun cs hc h' => hc (h'.resolve_right (by decide)), fun h => .inl (g11_8 (h.resolve_right (by decide))), fun h => .inl (g11_2 (h.resolve_right (by decide))), fun h => .inl (g12_9 (h.resolve_right (by decide))), fun _ => .inr rfl, fun h => .inl (g13_10 (h.resolve_right (by decide))), fun h => .inl (g13_7 (h.resolve_right (by decide)))⟩
      | 6, hi, hA =>
        obtain rfl := Option.some.inj hi
        clear hi
        clear hA
        have hrow := row_keep hb Hlt0'.out Hr0'.out
        clear hD
        have H0 := Lib.hid h0; have H1 := Lib.hid h1; have H2 := Lib.hid h2; have H3 := Lib.hid h3; have H4 := Lib.hid h4; have H5 := Lib.hid h5; have H6 := Lib.hid h6; have H7 := Lib.hid h7; have H8 := Lib.hid h8; have H9 := Lib.hid h9; have H10 := Lib.hid h10; have Hb := Lib.hid hb; clear hb h0 h1 h2 h3 h4 h5 h6 h7 h8 h9 h10
        go_wp2_with ((with_reducible refine at_load ?_); refine wpList_load_row rfl 25 (.tmp 3) rfl _ rfl _ _ (0, 0) _ hrow rfl rfl (by kernel_rfl) ?_)
        rw [HJ.out]
        exact ⟨f, _, _, _, _, _, _, _, _, _, _, _, rfl, Hb.out, fun h => H0.out (h.resolve_right (by decide)), fun h => H1.out (h.resolve_right (by decide)), fun h => H2.out (h.resolve_right (by decide)), fun h => H3.out (h.resolve_right (by decide)), fun h => H4.out (h.resolve_right (by decide)), fun h => H5.out (h.resolve_right (by decide)), fun _ => rfl, fun h => H7.out (h.resolve_right (by decide)), fun h => (H8.out (h.resolve_right (by decide))).mono fun cs hc h' => hc (h'.resolve_right (by decide)), fun h => (H9.out (h.resolve_right (by decide))).mono fun cs hc h' => hc (h'.resolve_right (by decide)), fun h => (H10.out (h.resolve_right (by decide))).mono fun cs hc h' => hc (h'.resolve_right (by decide)), fun h => .inl (g11_8 (h.resolve_right (by decide))), fun h => .inl (g11_2 (h.resolve_right (by decide))), fun h => .inl (g12_9 (h.resolve_right (by decide))), fun h => .inl (g12_5 (h.resolve_right (by decide))), fun h => .inl (g13_10 (h.resolve_right (by decide))), fun h => .inl (g13_7 (h.resolve_right (by decide)))⟩
      | 7, hi, hA =>
        obtain rfl := Option.some.inj hi
        clear hi
        have d6 := after_of hA 6 (by decide +kernel)
        clear hA
        obtain rfl := h6 d6
        have hcall := HC.out w' hb
        have H0 := Lib.hid h0; have H1 := Lib.hid h1; have H2 := Lib.hid h2; have H3 := Lib.hid h3; have H4 := Lib.hid h4; have H5 := Lib.hid h5; have H6 := Lib.hid h6; have H7 := Lib.hid h7; have H8 := Lib.hid h8; have H9 := Lib.hid h9; have H10 := Lib.hid h10; have Hb := Lib.hid hb; have HD := Lib.hid hD; clear hb hD h0 h1 h2 h3 h4 h5 h6 h7 h8 h9 h10
        have hsz := Lib.hid Hb.out.size
        go_wp2_with (go_at_call 10; refine hcall.mono ?_; rintro e w2 hna; obtain ⟨pq, capq, rfl, hq2, hq3, hq4⟩ := hna; have Hna := Lib.hid (show NA w' CC MC (.returned (.agg #[.bool CC, .slice pq MC.length capq])) w2 from ⟨pq, capq, rfl, hq2, hq3, hq4⟩); have Hq4 := Lib.hid hq4; clear hq2 hq3 hq4)
        rw [HJ.out]
        exact ⟨fu f w'.heap.size 7, _, _, _, _, _, _, _, _, _, _, _, rfl, Hb.out.trans (Hq4.out.mono hsz.out), fun h => H0.out (h.resolve_right (by decide)), fun h => H1.out (h.resolve_right (by decide)), fun h => (H2.out (h.resolve_right (by decide))).grow Hq4.out, fun h => H3.out (h.resolve_right (by decide)), fun h => H4.out (h.resolve_right (by decide)), fun h => (H5.out (h.resolve_right (by decide))).grow Hq4.out, fun _ => rfl, fun _ => NR.new Hna.out, fun h => ((H8.out (h.resolve_right (by decide))).grow Hq4.out).mono fun cs hc h' => hc (h'.resolve_right (by decide)), fun h => ((H9.out (h.resolve_right (by decide))).grow Hq4.out).mono fun cs hc h' => hc (h'.resolve_right (by decide)), fun h => ((H10.out (h.resolve_right (by decide))).grow Hq4.out).mono fun cs hc h' => (HD.out (g13_7 (h'.resolve_right (by decide)))).elim, fun h => .inl (g11_8 (h.resolve_right (by decide))), fun h => .inl (g11_2 (h.resolve_right (by decide))), fun h => .inl (g12_9 (h.resolve_right (by decide))), fun h => .inl (g12_5 (h.resolve_right (by decide))), fun h => .inl (g13_10 (h.resolve_right (by decide))), fun _ => .inr rfl⟩
      | 8, hi, hA =>
        obtain rfl := Option.some.inj hi
        clear hi
        clear hA
        have hst : ¬ D 11 := fun h => hD (g11_8 h)
        have H0 := Lib.hid h0; have H1 := Lib.hid h1; have H2 := Lib.hid h2; have H3 := Lib.hid h3; have H4 := Lib.hid h4; have H5 := Lib.hid h5; have H6 := Lib.hid h6; have H7 := Lib.hid h7; have H8 := Lib.hid h8; have H9 := Lib.hid h9; have H10 := Lib.hid h10; have Hb := Lib.hid hb; have Hst := Lib.hid hst; clear hb hD hst h0 h1 h2 h3 h4 h5 h6 h7 h8 h9 h10
        go_wp2
        have hal : ∀ ob, Below w'.heap.size w' (w'.alloc ob) := fun ob => (Below.refl _ _).alloc (Nat.le_refl _) ob
        rw [HJ.out]
        exact ⟨fu f w'.heap.size 8, _, _, _, _, _, _, _, _, _, _, _, rfl, Hb.out.trans ((hal _).mono Hb.out.size), fun h => H0.out (h.resolve_right (by decide)), fun h => H1.out (h.resolve_right (by decide)), fun h => (H2.out (h.resolve_right (by decide))).grow (hal _), fun h => H3.out (h.resolve_right (by decide)), fun h => H4.out (h.resolve_right (by decide)), fun h => (H5.out (h.resolve_right (by decide))).grow (hal _), fun h => H6.out (h.resolve_right (by decide)), fun h => (H7.out (h.resolve_right (by decide))).grow (hal _), fun _ => CR.new _ _ Hb.out.size fun h => (Hst.out (h.resolve_right (by decide))).elim, fun h => ((H9.out (h.resolve_right (by decide))).grow (hal _)).mono fun cs hc h' => hc (h'.resolve_right (by decide)), fun h => ((H10.out (h.resolve_right (by decide))).grow (hal _)).mono fun cs hc h' => hc (h'.resolve_right (by decide)), fun _ => .inr rfl, fun h => .inl (g11_2 (h.resolve_right (by decide))), fun h => .inl (g12_9 (h.resolve_right (by decide))), fun h => .inl (g12_5 (h.resolve_right (by decide))), fun h => .inl (g13_10 (h.resolve_right (by decide))), fun h => .inl (g13_7 (h.resolve_right (by decide)))⟩
      | 9, hi, hA =>
        obtain rfl := Option.some.inj hi
        clear hi
        clear hA
        have hst : ¬ D 12 := fun h => hD (g12_9 h)
        have H0 := Lib.hid h0; have H1 := Lib.hid h1; have H2 := Lib.hid h2; have H3 := Lib.hid h3; have H4 := Lib.hid h4; have H5 := Lib.hid h5; have H6 := Lib.hid h6; have H7 := Lib.hid h7; have H8 := Lib.hid h8; have H9 := Lib.hid h9; have H10 := Lib.hid h10; have Hb := Lib.hid hb; have Hst := Lib.hid hst; clear hb hD hst h0 h1 h2 h3 h4 h5 h6 h7 h8 h9 h10
        go_wp2
        have hal : ∀ ob, Below w'.heap.size w' (w'.alloc ob) := fun ob => (Below.refl _ _).alloc (Nat.le_refl _) ob
        rw [HJ.out]
        exact ⟨fu f w'.heap.size 9, _, _, _, _, _, _, _, _, _, _, _, rfl, Hb.out.trans ((hal _).mono Hb.out.size), fun h => H0.out (h.resolve_right (by decide)), fun h => H1.out (h.resolve_right (by decide)), fun h => (H2.out (h.resolve_right (by decide))).grow (hal _), fun h => H3.out (h.resolve_right (by decide)), fun h => H4.out (h.resolve_right (by decide)), fun h => (H5.out (h.resolve_right (by decide))).grow (hal _), fun h => H6.out (h.resolve_right (by decide)), fun h => (H7.out (h.resolve_right (by decide))).grow (hal _), fun h => ((H8.out (h.resolve_right (by decide))).grow (hal _)).mono fun cs hc h' => hc (h'.resolve_right (by decide)), fun _ => CR.new _ _ Hb.out.size fun h => (Hst.out (h.resolve_right (by decide))).elim, fun h => ((H10.out (h.resolve_right (by decide))).grow (hal _)).mono fun cs hc h' => hc (h'.resolve_right (by decide)), fun h => .inl (g11_8 (h.resolve_right (by decide))), fun h => .inl (g11_2 (h.resolve_right (by decide))), fun _ => .inr rfl, fun h => .inl (g12_5 (h.resolve_right (by decide))), fun h => .inl (g13_10 (h.resolve_right (by decide))), fun h => .inl (g13_7 (h.resolve_right (by decide)))⟩
      | 10, hi, hA =>
        obtain rfl := Option.some.inj hi
        clear hi
        clear hA
        have hst : ¬ D 13 := fun h => hD (g13_10 h)
        have H0 := Lib.hid h0; have H1 := Lib.hid h1; have H2 := Lib.hid h2; have H3 := Lib.hid h3; have H4 := Lib.hid h4; have H5 := Lib.hid h5; have H6 := Lib.hid h6; have H7 := Lib.hid h7; have H8 := Lib.hid h8; have H9 := Lib.hid h9; have H10 := Lib.hid h10; have Hb := Lib.hid hb; have Hst := Lib.hid hst; clear hb hD hst h0 h1 h2 h3 h4 h5 h6 h7 h8 h9 h10
        go_wp2
        have hal : ∀ ob, Below w'.heap.size w' (w'.alloc ob) := fun ob => (Below.refl _ _).alloc (Nat.le_refl _) ob
        rw [HJ.out]
        exact ⟨fu f w'.heap.size 10, _, _, _, _, _, _, _, _, _, _, _, rfl, Hb.out.trans ((hal _).mono Hb.out.size), fun h => H0.out (h.resolve_right (by decide)), fun h => H1.out (h.resolve_right (by decide)), fun h => (H2.out (h.resolve_right (by decide))).grow (hal _), fun h => H3.out (h.resolve_right (by decide)), fun h => H4.out (h.resolve_right (by decide)), fun h => (H5.out (h.resolve_right (by decide))).grow (hal _), fun h => H6.out (h.resolve_right (by decide)), fun h => (H7.out (h.resolve_right (by decide))).grow (hal _), fun h => ((H8.out (h.resolve_right (by decide))).grow (hal _)).mono fun cs hc h' => hc (h'.resolve_right (by decide)), fun h => ((H9.out (h.resolve_right (by decide))).grow (hal _)).mono fun cs hc h' => hc (h'.resolve_right (by decide)), fun _ => CR.new _ _ Hb.out.size fun h => (Hst.out (h.resolve_right (by decide))).elim, fun h => .inl (g11_8 (h.resolve_right (by decide))), fun h => .inl (g11_2 (h.resolve_right (by decide))), fun h => .inl (g12_9 (h.resolve_right (by decide))), fun h => .inl (g12_5 (h.resolve_right (by decide))), fun _ => .inr rfl, fun h => .inl (g13_7 (h.resolve_right (by decide)))⟩
      | 11, hi, hA =>
        obtain rfl := Option.some.inj hi
        clear hi
        have d2 := after_of hA 2 (by decide +kernel)
        have d8 := after_of hA 8 (by decide +kernel)
        clear hA
        obtain ⟨g, x, y, rfl, hg1, hg2, hg3, hg4⟩ := h8 d8
        obtain ⟨pq, capq, rfl, hq2, hq3⟩ := h2 d2
        have hv : NR f 2 w' CU MU (.agg #[.bool CU, .slice pq MU.length capq]) := ⟨pq, capq, rfl, hq2, hq3⟩
        have H0 := Lib.hid h0; have H1 := Lib.hid h1; have H2 := Lib.hid h2; have H3 := Lib.hid h3; have H4 := Lib.hid h4; have H5 := Lib.hid h5; have H6 := Lib.hid h6; have H7 := Lib.hid h7; have H9 := Lib.hid h9; have H10 := Lib.hid h10; have Hb := Lib.hid hb; have Hv := Lib.hid hv; have Hg1 := Lib.hid hg1; have Hg2 := Lib.hid hg2; have Hg3 := Lib.hid hg3; clear hb hD hv hg1 hg2 hg3 hg4 hq2 hq3 h0 h1 h2 h3 h4 h5 h6 h7 h8 h9 h10
        go_wp2_with ((with_reducible refine at_store ?_); refine wpList_store_row rfl 25 (.tmp 7) (.tmp 20) rfl _ _ rfl rfl _ _ Hg3.out (by kernel_rfl) (by kernel_rfl) (by kernel_rfl) ?_)
        rw [HJ.out]
        exact ⟨f, _, _, _, _, _, _, _, _, _, _, _, rfl, below_setRow Hb.out Hg1.out _, fun h => H0.out (h.resolve_right (by decide)), fun h => H1.out (h.resolve_right (by decide)), fun _ => Hv.out.store (by rw [Hg2.out]; decide) _, fun h => H3.out (h.resolve_right (by decide)), fun h => H4.out (h.resolve_right (by decide)), fun h => (H5.out (h.resolve_right (by decide))).store (by rw [Hg2.out]; decide) _, fun h => H6.out (h.resolve_right (by decide)), fun h => (H7.out (h.resolve_right (by decide))).store (by rw [Hg2.out]; decide) _, fun _ => ⟨g, _, _, rfl, Hg1.out, Hg2.out, setRow_heap _ _ _ _ _ _ Hg3.out, fun _ => rfl⟩, fun h => ((H9.out (h.resolve_right (by decide))).other (by rw [Hg2.out]; decide) _).mono fun cs hc h' => hc (h'.resolve_right (by decide)), fun h => ((H10.out (h.resolve_right (by decide))).other (by rw [Hg2.out]; decide) _).mono fun cs hc h' => hc (h'.resolve_right (by decide)), fun _ => .inl d8, fun _ => .inl d2, fun h => .inl (g12_9 (h.resolve_right (by decide))), fun h => .inl (g12_5 (h.resolve_right (by decide))), fun h => .inl (g13_10 (h.resolve_right (by decide))), fun h => .inl (g13_7 (h.resolve_right (by decide)))⟩
      | 12, hi, hA =>
        obtain rfl := Option.some.inj hi
        clear hi
        have d5 := after_of hA 5 (by decide +kernel)
        have d9 := after_of hA 9 (by decide +kernel)
        clear hA
        obtain ⟨g, x, y, rfl, hg1, hg2, hg3, hg4⟩ := h9 d9
        obtain ⟨pq, capq, rfl, hq2, hq3⟩ := h5 d5
        have hv : NR f 5 w' CI MI (.agg #[.bool CI, .slice pq MI.length capq]) := ⟨pq, capq, rfl, hq2, hq3⟩
        have H0 := Lib.hid h0; have H1 := Lib.hid h1; have H2 := Lib.hid h2; have H3 := Lib.hid h3; have H4 := Lib.hid h4; have H5 := Lib.hid h5; have H6 := Lib.hid h6; have H7 := Lib.hid h7; have H8 := Lib.hid h8; have H10 := Lib.hid h10; have Hb := Lib.hid hb; have Hv := Lib.hid hv; have Hg1 := Lib.hid hg1; have Hg2 := Lib.hid hg2; have Hg3 := Lib.hid hg3; clear hb hD hv hg1 hg2 hg3 hg4 hq2 hq3 h0 h1 h2 h3 h4 h5 h6 h7 h8 h9 h10
        go_wp2_with ((with_reducible refine at_store ?_); refine wpList_store_row rfl 25 (.tmp 8) (.tmp 23) rfl _ _ rfl rfl _ _ Hg3.out (by kernel_rfl) (by kernel_rfl) (by kernel_rfl) ?_)
        rw [HJ.out]
        exact ⟨f, _, _, _, _, _, _, _, _, _, _, _, rfl, below_setRow Hb.out Hg1.out _, fun h => H0.out (h.resolve_right (by decide)), fun h => H1.out (h.resolve_right (by decide)), fun h => (H2.out (h.resolve_right (by decide))).store (by rw [Hg2.out]; decide) _, fun h => H3.out (h.resolve_right (by decide)), fun h => H4.out (h.resolve_right (by decide)), fun _ => Hv.out.store (by rw [Hg2.out]; decide) _, fun h => H6.out (h.resolve_right (by decide)), fun h => (H7.out (h.resolve_right (by decide))).store (by rw [Hg2.out]; decide) _, fun h => ((H8.out (h.resolve_right (by decide))).other (by rw [Hg2.out]; decide) _).mono fun cs hc h' => hc (h'.resolve_right (by decide)), fun _ => ⟨g, _, _, rfl, Hg1.out, Hg2.out, setRow_heap _ _ _ _ _ _ Hg3.out, fun _ => rfl⟩, fun h => ((H10.out (h.resolve_right (by decide))).other (by rw [Hg2.out]; decide) _).mono fun cs hc h' => hc (h'.resolve_right (by decide)), fun h => .inl (g11_8 (h.resolve_right (by decide))), fun h => .inl (g11_2 (h.resolve_right (by decide))), fun _ => .inl d9, fun _ => .inl d5, fun h => .inl (g13_10 (h.resolve_right (by decide))), fun h => .inl (g13_7 (h.resolve_right (by decide)))⟩
      | 13, hi, hA =>
        obtain rfl := Option.some.inj hi
        clear hi
        have d7 := after_of hA 7 (by decide +kernel)
        have d10 := after_of hA 10 (by decide +kernel)
        clear hA
        obtain ⟨g, x, y, rfl, hg1, hg2, hg3, hg4⟩ := h10 d10
        obtain ⟨pq, capq, rfl, hq2, hq3⟩ := h7 d7
        have hv : NR f 7 w' CC MC (.agg #[.bool CC, .slice pq MC.length capq]) := ⟨pq, capq, rfl, hq2, hq3⟩
        have H0 := Lib.hid h0; have H1 := Lib.hid h1; have H2 := Lib.hid h2; have H3 := Lib.hid h3; have H4 := Lib.hid h4; have H5 := Lib.hid h5; have H6 := Lib.hid h6; have H7 := Lib.hid h7; have H8 := Lib.hid h8; have H9 := Lib.hid h9; have Hb := Lib.hid hb; have Hv := Lib.hid hv; have Hg1 := Lib.hid hg1; have Hg2 := Lib.hid hg2; have Hg3 := Lib.hid hg3; clear hb hD hv hg1 hg2 hg3 hg4 hq2 hq3 h0 h1 h2 h3 h4 h5 h6 h7 h8 h9 h10
        go_wp2_with ((with_reducible refine at_store ?_); refine wpList_store_row rfl 25 (.tmp 9) (.tmp 25) rfl _ _ rfl rfl _ _ Hg3.out (by kernel_rfl) (by kernel_rfl) (by kernel_rfl) ?_)
        rw [HJ.out]
        exact ⟨f, _, _, _, _, _, _, _, _, _, _, _, rfl, below_setRow Hb.out Hg1.out _, fun h => H0.out (h.resolve_right (by decide)), fun h => H1.out (h.resolve_right (by decide)), fun h => (H2.out (h.resolve_right (by decide))).store (by rw [Hg2.out]; decide) _, fun h => H3.out (h.resolve_right (by decide)), fun h => H4.out (h.resolve_right (by decide)), fun h => (H5.out (h.resolve_right (by decide))).store (by rw [Hg2.out]; decide) _, fun h => H6.out (h.resolve_right (by decide)), fun _ => Hv.out.store (by rw [Hg2.out]; decide) _, fun h => ((H8.out (h.resolve_right (by decide))).other (by rw [Hg2.out]; decide) _).mono fun cs hc h' => hc (h'.resolve_right (by decide)), fun h => ((H9.out (h.resolve_right (by decide))).other (by rw [Hg2.out]; decide) _).mono fun cs hc h' => hc (h'.resolve_right (by decide)), fun _ => ⟨g, _, _, rfl, Hg1.out, Hg2.out, setRow_heap _ _ _ _ _ _ Hg3.out, fun _ => rfl⟩, fun h => .inl (g11_8 (h.resolve_right (by decide))), fun h => .inl (g11_2 (h.resolve_right (by decide))), fun h => .inl (g12_9 (h.resolve_right (by decide))), fun h => .inl (g12_5 (h.resolve_right (by decide))), fun _ => .inl d10, fun _ => .inl d7⟩
      | n + 14, hi, hA => cases hi
    · intro D a w' hall hJ
      rw [HJ.out] at hJ
      obtain ⟨f, s18, s19, s20, s21, s22, s23, s24, s25, s7, s8, s9, rfl, hb, h0, h1, h2, h3, h4, h5, h6, h7, h8, h9, h10, g11_8, g11_2, g12_9, g12_5, g13_10, g13_7⟩ := hJ
      have hd : ∀ i, i < 14 → D i := hall
      clear hall
      obtain ⟨g1, xa, ya, rfl, hg1, hf1, hq1, hc1⟩ := h8 (hd 8 (by decide))
      obtain ⟨g2, xc, yc, rfl, hg2, hf2, hq2, hc2⟩ := h9 (hd 9 (by decide))
      obtain ⟨g3, xd, yd, rfl, hg3, hf3, hq3, hc3⟩ := h10 (hd 10 (by decide))
      obtain ⟨pU, kU, rfl, hsu, hz1⟩ := h2 (hd 2 (by decide))
      obtain ⟨pI, kI, rfl, hsi, hz2⟩ := h5 (hd 5 (by decide))
      obtain ⟨pC, kC, rfl, hsc, hz3⟩ := h7 (hd 7 (by decide))
      have e1 := hc1 (hd 11 (by decide))
      have e2 := hc2 (hd 12 (by decide))
      have e3 := hc3 (hd 13 (by decide))
      obtain rfl := h0 (hd 0 (by decide))
      obtain rfl := h1 (hd 1 (by decide))
      obtain rfl := h3 (hd 3 (by decide))
      obtain rfl := h4 (hd 4 (by decide))
      obtain rfl := h6 (hd 6 (by decide))
      simp only [Value.agg.injEq, Array.mk.injEq, List.cons.injEq, and_true] at e1 e2 e3
      obtain ⟨rfl, rfl⟩ := e1
      obtain ⟨rfl, rfl⟩ := e2
      obtain ⟨rfl, rfl⟩ := e3
      clear h0 h1 h2 h3 h4 h5 h6 h7 h8 h9 h10 g11_8 g11_2 g12_9 g12_5 g13_10 g13_7 hd hc1 hc2 hc3 hf1 hf2 hf3 hz1 hz2 hz3 HU HI HC HJ
      have Hb2 := Lib.hid (Hb1.out.trans (hb.mono Hb1.out.size))
      have HS1 := Lib.hid (HS1'.out.below hb); have HS2 := Lib.hid (HS2'.out.below hb)
      have HSU := Lib.hid hsu; have HSI := Lib.hid hsi; have HSC := Lib.hid hsc
      have Hr0 := Lib.hid (row_keep hb Hlt0'.out Hr0'.out); have Hr1 := Lib.hid (row_keep hb Hlt1'.out Hr1'.out)
      have Hlt0 := Lib.hid (Nat.lt_of_lt_of_le Hlt0'.out hb.size); have Hlt1 := Lib.hid (Nat.lt_of_lt_of_le Hlt1'.out hb.size)
      have Hlt2 := Lib.hid (heap_lt hq1); have Hlt3 := Lib.hid (heap_lt hq2); have Hlt4 := Lib.hid (heap_lt hq3)
      have E0 := Lib.hid (show w'.cell? ⟨w.heap.size, 0, none⟩ = some (.bool c1) from cell_of_row _ _ _ _ _ _ Hr0.out)
      have E1 := Lib.hid (show w'.cell? ⟨w.heap.size, 1, none⟩ = some (.slice p1 L1.length k1) from cell_of_row _ _ _ _ _ _ Hr0.out)
      have E2 := Lib.hid (show w'.cell? ⟨w.heap.size + 1, 0, none⟩ = some (.bool c2) from cell_of_row _ _ _ _ _ _ Hr1.out)
      have E3 := Lib.hid (show w'.cell? ⟨w.heap.size + 1, 1, none⟩ = some (.slice p2 L2.length k2) from cell_of_row _ _ _ _ _ _ Hr1.out)
      have E4 := Lib.hid (show w'.cell? ⟨g1, 0, none⟩ = some (.bool CU) from cell_of_row _ _ _ _ _ _ hq1)
      have E5 := Lib.hid (show w'.cell? ⟨g1, 1, none⟩ = some (.slice pU MU.length kU) from cell_of_row _ _ _ _ _ _ hq1)
      have E6 := Lib.hid (show w'.cell? ⟨g2, 0, none⟩ = some (.bool CI) from cell_of_row _ _ _ _ _ _ hq2)
      have E7 := Lib.hid (show w'.cell? ⟨g2, 1, none⟩ = some (.slice pI MI.length kI) from cell_of_row _ _ _ _ _ _ hq2)
      have E8 := Lib.hid (show w'.cell? ⟨g3, 0, none⟩ = some (.bool CC) from cell_of_row _ _ _ _ _ _ hq3)
      have E9 := Lib.hid (show w'.cell? ⟨g3, 1, none⟩ = some (.slice pC MC.length kC) from cell_of_row _ _ _ _ _ _ hq3)
      clear hq1 hq2 hq3 hg1 hg2 hg3 hsu hsi hsc hb HS1' HS2' Hr0' Hr1' Hlt0' Hlt1' Hb1
      have hK : ∀ {K : Act → World → Prop} {Q : Exit → Act → World → Prop} {a : Act} {w : World}, K a w → Exit.then K Q .normal a w := fun h => h
      generalize w' = wm at *
      have HB0 := Lib.hid (Below.refl wm.heap.size wm)
      have HSt := Lib.hid (show ∀ w', Below wm.heap.size wm w' → SL w' p1 L1 ∧ SL w' p2 L2 ∧ SL w' pU MU ∧ SL w' pI MI ∧ SL w' pC MC from fun w' h => ⟨HS1.out.below h, HS2.out.below h, HSU.out.below h, HSI.out.below h, HSC.out.below h⟩)
      clear HS1 HS2 HSU HSI HSC
      have z0_0 := E0.out; have z0_1 := E1.out; have z0_2 := E2.out; have z0_3 := E3.out; have z0_4 := E4.out; have z0_5 := E5.out; have z0_6 := E6.out; have z0_7 := E7.out; have z0_8 := E8.out; have z0_9 := E9.out
      refine hK ?_
      go_upto_region 5 with (first
        | ((with_reducible refine Lex.at_finK ?_); refine LexK.finE_on (by kernel_rfl) (by repeat first | exact LexK.finL_nil | refine LexK.finL_none rfl ?_ | refine LexK.finL_skip (by decide +kernel) ?_ | refine LexK.finL_take rfl Hlt0.out (cell_keep HB0.out.drew Hlt0.out E0.out) ?_ | refine LexK.finL_take rfl Hlt1.out (cell_keep HB0.out.drew Hlt1.out E2.out) ?_ | refine LexK.finL_take rfl Hlt2.out (cell_keep HB0.out.drew Hlt2.out E4.out) ?_ | refine LexK.finL_take rfl Hlt3.out (cell_keep HB0.out.drew Hlt3.out E6.out) ?_ | refine LexK.finL_take rfl Hlt4.out (cell_keep HB0.out.drew Hlt4.out E8.out) ?_) ?_)
        | ((with_reducible refine Lex.at_region ?_); refine LexK.wp_region_lexE (fun b => b < wm.heap.size) (by kernel_rfl) (by decide +kernel) ?_)
        | ((with_reducible refine Lex.at_wpX ?_); with_reducible refine LexK.wpX_plain (by decide +kernel) ?_)
        | ((with_reducible refine Lex.at_wpX ?_); with_reducible refine LexK.wpX_call ?_)
        | ((with_reducible refine Lex.at_wpX ?_); with_reducible refine LexK.wpX_nil ?_)
        | ((with_reducible refine Lex.at_ext ?_); first
            | with_reducible refine LexK.ext_on (LexK.Ext.of_below hb11'.out (Nat.le_refl _)) ?_
            | with_reducible refine LexK.ext_on (LexK.Ext.of_below hb10'.out (Nat.le_refl _)) ?_)
        | (go_at_call 18; first
            | (refine (hx2 _ (HSt.out _ HB10.out).2.1).mono ?_; rintro e w11 ⟨rfl, hb11⟩; have hb11' := Lib.hid hb11; have HB11 := Lib.hid (HB10.out.trans (hb11.mono HB10.out.size)); clear z10_0 z10_1 z10_2 z10_3 z10_4 z10_5 z10_6 z10_7 z10_8 z10_9; have z11_0 := cell_keep HB11.out Hlt0.out E0.out; have z11_1 := cell_keep HB11.out Hlt0.out E1.out; have z11_2 := cell_keep HB11.out Hlt1.out E2.out; have z11_3 := cell_keep HB11.out Hlt1.out E3.out; have z11_4 := cell_keep HB11.out Hlt2.out E4.out; have z11_5 := cell_keep HB11.out Hlt2.out E5.out; have z11_6 := cell_keep HB11.out Hlt3.out E6.out; have z11_7 := cell_keep HB11.out Hlt3.out E7.out; have z11_8 := cell_keep HB11.out Hlt4.out E8.out; have z11_9 := cell_keep HB11.out Hlt4.out E9.out; clear hb11)
            | (refine (hx1 _ (HSt.out _ HB0.out.drew).1).mono ?_; rintro e w10 ⟨rfl, hb10⟩; have hb10' := Lib.hid hb10; have HB10 := Lib.hid (HB0.out.drew.trans (hb10.mono HB0.out.size)); clear z0_0 z0_1 z0_2 z0_3 z0_4 z0_5 z0_6 z0_7 z0_8 z0_9; have z10_0 := cell_keep HB10.out Hlt0.out E0.out; have z10_1 := cell_keep HB10.out Hlt0.out E1.out; have z10_2 := cell_keep HB10.out Hlt1.out E2.out; have z10_3 := cell_keep HB10.out Hlt1.out E3.out; have z10_4 := cell_keep HB10.out Hlt2.out E4.out; have z10_5 := cell_keep HB10.out Hlt2.out E5.out; have z10_6 := cell_keep HB10.out Hlt3.out E6.out; have z10_7 := cell_keep HB10.out Hlt3.out E7.out; have z10_8 := cell_keep HB10.out Hlt4.out E8.out; have z10_9 := cell_keep HB10.out Hlt4.out E9.out; clear hb10)))
      cases X1 <;> cases X2
      all_goals
        go_wp2_with (first
          | ((with_reducible refine Lex.at_finK ?_); refine LexK.finE_on (by kernel_rfl) (by repeat first | exact LexK.finL_nil | refine LexK.finL_none rfl ?_ | refine LexK.finL_skip (by decide +kernel) ?_ | refine LexK.finL_take rfl Hlt0.out (cell_keep HB11.out.drew Hlt0.out E0.out) ?_ | refine LexK.finL_take rfl Hlt1.out (cell_keep HB11.out.drew Hlt1.out E2.out) ?_ | refine LexK.finL_take rfl Hlt2.out (cell_keep HB11.out.drew Hlt2.out E4.out) ?_ | refine LexK.finL_take rfl Hlt3.out (cell_keep HB11.out.drew Hlt3.out E6.out) ?_ | refine LexK.finL_take rfl Hlt4.out (cell_keep HB11.out.drew Hlt4.out E8.out) ?_) ?_)
          | ((with_reducible refine Lex.at_region ?_); refine LexK.wp_region_lexE (fun b => b < wm.heap.size) (by kernel_rfl) (by decide +kernel) ?_)
          | ((with_reducible refine Lex.at_wpX ?_); with_reducible refine LexK.wpX_plain (by decide +kernel) ?_)
          | ((with_reducible refine Lex.at_wpX ?_); with_reducible refine LexK.wpX_call ?_)
          | ((with_reducible refine Lex.at_wpX ?_); with_reducible refine LexK.wpX_nil ?_)
          | ((with_reducible refine Lex.at_ext ?_); first
              | with_reducible refine LexK.ext_on (LexK.Ext.of_below hb30'.out (Nat.le_refl _)) ?_
              | with_reducible refine LexK.ext_on (LexK.Ext.of_below hb29'.out (Nat.le_refl _)) ?_
              | with_reducible refine LexK.ext_on (LexK.Ext.of_below hb28'.out (Nat.le_refl _)) ?_
              | with_reducible refine LexK.ext_on (LexK.Ext.of_below hb27'.out (Nat.le_refl _)) ?_
              | with_reducible refine LexK.ext_on (LexK.Ext.of_below hb26'.out (Nat.le_refl _)) ?_
              | with_reducible refine LexK.ext_on (LexK.Ext.of_below hb25'.out (Nat.le_refl _)) ?_
              | with_reducible refine LexK.ext_on (LexK.Ext.of_below hb24'.out (Nat.le_refl _)) ?_
              | with_reducible refine LexK.ext_on (LexK.Ext.of_below hb23'.out (Nat.le_refl _)) ?_
              | with_reducible refine LexK.ext_on (LexK.Ext.of_below hb22'.out (Nat.le_refl _)) ?_
              | with_reducible refine LexK.ext_on (LexK.Ext.of_below hb21'.out (Nat.le_refl _)) ?_
              | with_reducible refine LexK.ext_on (LexK.Ext.of_below hb20'.out (Nat.le_refl _)) ?_)
          | (go_at_call 24; first
              | (refine (hvC _ _ _ (HSt.out _ HB21.out).2.2.2.2).mono ?_; rintro e w22 ⟨rfl, hb22⟩; have hb22' := Lib.hid hb22; have HB22 := Lib.hid (HB21.out.trans (hb22.mono HB21.out.size)); clear z21_0 z21_1 z21_2 z21_3 z21_4 z21_5 z21_6 z21_7 z21_8 z21_9; have z22_0 := cell_keep HB22.out Hlt0.out E0.out; have z22_1 := cell_keep HB22.out Hlt0.out E1.out; have z22_2 := cell_keep HB22.out Hlt1.out E2.out; have z22_3 := cell_keep HB22.out Hlt1.out E3.out; have z22_4 := cell_keep HB22.out Hlt2.out E4.out; have z22_5 := cell_keep HB22.out Hlt2.out E5.out; have z22_6 := cell_keep HB22.out Hlt3.out E6.out; have z22_7 := cell_keep HB22.out Hlt3.out E7.out; have z22_8 := cell_keep HB22.out Hlt4.out E8.out; have z22_9 := cell_keep HB22.out Hlt4.out E9.out; clear hb22)
              | (refine (hvI _ _ _ (HSt.out _ HB20.out).2.2.2.1).mono ?_; rintro e w21 ⟨rfl, hb21⟩; have hb21' := Lib.hid hb21; have HB21 := Lib.hid (HB20.out.trans (hb21.mono HB20.out.size)); clear z20_0 z20_1 z20_2 z20_3 z20_4 z20_5 z20_6 z20_7 z20_8 z20_9; have z21_0 := cell_keep HB21.out Hlt0.out E0.out; have z21_1 := cell_keep HB21.out Hlt0.out E1.out; have z21_2 := cell_keep HB21.out Hlt1.out E2.out; have z21_3 := cell_keep HB21.out Hlt1.out E3.out; have z21_4 := cell_keep HB21.out Hlt2.out E4.out; have z21_5 := cell_keep HB21.out Hlt2.out E5.out; have z21_6 := cell_keep HB21.out Hlt3.out E6.out; have z21_7 := cell_keep HB21.out Hlt3.out E7.out; have z21_8 := cell_keep HB21.out Hlt4.out E8.out; have z21_9 := cell_keep HB21.out Hlt4.out E9.out; clear hb21)
              | (refine (hvU _ _ _ (HSt.out _ HB11.out.drew).2.2.1).mono ?_; rintro e w20 ⟨rfl, hb20⟩; have hb20' := Lib.hid hb20; have HB20 := Lib.hid (HB11.out.drew.trans (hb20.mono HB11.out.size)); clear z11_0 z11_1 z11_2 z11_3 z11_4 z11_5 z11_6 z11_7 z11_8 z11_9; have z20_0 := cell_keep HB20.out Hlt0.out E0.out; have z20_1 := cell_keep HB20.out Hlt0.out E1.out; have z20_2 := cell_keep HB20.out Hlt1.out E2.out; have z20_3 := cell_keep HB20.out Hlt1.out E3.out; have z20_4 := cell_keep HB20.out Hlt2.out E4.out; have z20_5 := cell_keep HB20.out Hlt2.out E5.out; have z20_6 := cell_keep HB20.out Hlt3.out E6.out; have z20_7 := cell_keep HB20.out Hlt3.out E7.out; have z20_8 := cell_keep HB20.out Hlt4.out E8.out; have z20_9 := cell_keep HB20.out Hlt4.out E9.out; clear hb20))
          | (go_at_call 20; first
              | (refine (hcC _ _ _ (HSt.out _ HB24.out).2.2.2.2).mono ?_; rintro e w25 ⟨rfl, hb25⟩; have hb25' := Lib.hid hb25; have HB25 := Lib.hid (HB24.out.trans (hb25.mono HB24.out.size)); clear z24_0 z24_1 z24_2 z24_3 z24_4 z24_5 z24_6 z24_7 z24_8 z24_9; have z25_0 := cell_keep HB25.out Hlt0.out E0.out; have z25_1 := cell_keep HB25.out Hlt0.out E1.out; have z25_2 := cell_keep HB25.out Hlt1.out E2.out; have z25_3 := cell_keep HB25.out Hlt1.out E3.out; have z25_4 := cell_keep HB25.out Hlt2.out E4.out; have z25_5 := cell_keep HB25.out Hlt2.out E5.out; have z25_6 := cell_keep HB25.out Hlt3.out E6.out; have z25_7 := cell_keep HB25.out Hlt3.out E7.out; have z25_8 := cell_keep HB25.out Hlt4.out E8.out; have z25_9 := cell_keep HB25.out Hlt4.out E9.out; clear hb25)
              | (refine (hcI _ _ _ (HSt.out _ HB23.out).2.2.2.1).mono ?_; rintro e w24 ⟨rfl, hb24⟩; have hb24' := Lib.hid hb24; have HB24 := Lib.hid (HB23.out.trans (hb24.mono HB23.out.size)); clear z23_0 z23_1 z23_2 z23_3 z23_4 z23_5 z23_6 z23_7 z23_8 z23_9; have z24_0 := cell_keep HB24.out Hlt0.out E0.out; have z24_1 := cell_keep HB24.out Hlt0.out E1.out; have z24_2 := cell_keep HB24.out Hlt1.out E2.out; have z24_3 := cell_keep HB24.out Hlt1.out E3.out; have z24_4 := cell_keep HB24.out Hlt2.out E4.out; have z24_5 := cell_keep HB24.out Hlt2.out E5.out; have z24_6 := cell_keep HB24.out Hlt3.out E6.out; have z24_7 := cell_keep HB24.out Hlt3.out E7.out; have z24_8 := cell_keep HB24.out Hlt4.out E8.out; have z24_9 := cell_keep HB24.out Hlt4.out E9.out; clear hb24)
              | (refine (hcU _ _ _ (HSt.out _ HB22.out).2.2.1).mono ?_; rintro e w23 ⟨rfl, hb23⟩; have hb23' := Lib.hid hb23; have HB23 := Lib.hid (HB22.out.trans (hb23.mono HB22.out.size)); clear z22_0 z22_1 z22_2 z22_3 z22_4 z22_5 z22_6 z22_7 z22_8 z22_9; have z23_0 := cell_keep HB23.out Hlt0.out E0.out; have z23_1 := cell_keep HB23.out Hlt0.out E1.out; have z23_2 := cell_keep HB23.out Hlt1.out E2.out; have z23_3 := cell_keep HB23.out Hlt1.out E3.out; have z23_4 := cell_keep HB23.out Hlt2.out E4.out; have z23_5 := cell_keep HB23.out Hlt2.out E5.out; have z23_6 := cell_keep HB23.out Hlt3.out E6.out; have z23_7 := cell_keep HB23.out Hlt3.out E7.out; have z23_8 := cell_keep HB23.out Hlt4.out E8.out; have z23_9 := cell_keep HB23.out Hlt4.out E9.out; clear hb23))
          | (go_at_call 26; first
              | (refine (hrU _ (HSt.out _ HB25.out).1 (HSt.out _ HB25.out).2.1).mono ?_; rintro e w26 ⟨pR, kR, rfl, sR, hb26⟩; have hb26' := Lib.hid hb26; have HB26 := Lib.hid (HB25.out.trans (hb26.mono HB25.out.size)); clear z25_0 z25_1 z25_2 z25_3 z25_4 z25_5 z25_6 z25_7 z25_8 z25_9; have z26_0 := cell_keep HB26.out Hlt0.out E0.out; have z26_1 := cell_keep HB26.out Hlt0.out E1.out; have z26_2 := cell_keep HB26.out Hlt1.out E2.out; have z26_3 := cell_keep HB26.out Hlt1.out E3.out; have z26_4 := cell_keep HB26.out Hlt2.out E4.out; have z26_5 := cell_keep HB26.out Hlt2.out E5.out; have z26_6 := cell_keep HB26.out Hlt3.out E6.out; have z26_7 := cell_keep HB26.out Hlt3.out E7.out; have z26_8 := cell_keep HB26.out Hlt4.out E8.out; have z26_9 := cell_keep HB26.out Hlt4.out E9.out; have SR := Lib.hid sR; clear sR; clear hb26))
          | (go_at_call 27; first
              | (refine (hrI _ (HSt.out _ HB27.out).1 (HSt.out _ HB27.out).2.1).mono ?_; rintro e w28 ⟨pT, kT, rfl, sT, hb28⟩; have hb28' := Lib.hid hb28; have HB28 := Lib.hid (HB27.out.trans (hb28.mono HB27.out.size)); clear z27_0 z27_1 z27_2 z27_3 z27_4 z27_5 z27_6 z27_7 z27_8 z27_9; have z28_0 := cell_keep HB28.out Hlt0.out E0.out; have z28_1 := cell_keep HB28.out Hlt0.out E1.out; have z28_2 := cell_keep HB28.out Hlt1.out E2.out; have z28_3 := cell_keep HB28.out Hlt1.out E3.out; have z28_4 := cell_keep HB28.out Hlt2.out E4.out; have z28_5 := cell_keep HB28.out Hlt2.out E5.out; have z28_6 := cell_keep HB28.out Hlt3.out E6.out; have z28_7 := cell_keep HB28.out Hlt3.out E7.out; have z28_8 := cell_keep HB28.out Hlt4.out E8.out; have z28_9 := cell_keep HB28.out Hlt4.out E9.out; have ST := Lib.hid sT; clear sT; clear hb28))
          | (go_at_call 12; first
              | (refine (hsI _ _ _ _ _ (HSt.out _ HB28.out).2.2.2.1 ST.out).mono ?_; rintro e w29 ⟨rfl, hb29⟩; have hb29' := Lib.hid hb29; have HB29 := Lib.hid (HB28.out.trans (hb29.mono HB28.out.size)); clear z28_0 z28_1 z28_2 z28_3 z28_4 z28_5 z28_6 z28_7 z28_8 z28_9; have z29_0 := cell_keep HB29.out Hlt0.out E0.out; have z29_1 := cell_keep HB29.out Hlt0.out E1.out; have z29_2 := cell_keep HB29.out Hlt1.out E2.out; have z29_3 := cell_keep HB29.out Hlt1.out E3.out; have z29_4 := cell_keep HB29.out Hlt2.out E4.out; have z29_5 := cell_keep HB29.out Hlt2.out E5.out; have z29_6 := cell_keep HB29.out Hlt3.out E6.out; have z29_7 := cell_keep HB29.out Hlt3.out E7.out; have z29_8 := cell_keep HB29.out Hlt4.out E8.out; have z29_9 := cell_keep HB29.out Hlt4.out E9.out; clear hb29)
              | (refine (hsU _ _ _ _ _ (HSt.out _ HB26.out).2.2.1 SR.out).mono ?_; rintro e w27 ⟨rfl, hb27⟩; have hb27' := Lib.hid hb27; have HB27 := Lib.hid (HB26.out.trans (hb27.mono HB26.out.size)); clear z26_0 z26_1 z26_2 z26_3 z26_4 z26_5 z26_6 z26_7 z26_8 z26_9; have z27_0 := cell_keep HB27.out Hlt0.out E0.out; have z27_1 := cell_keep HB27.out Hlt0.out E1.out; have z27_2 := cell_keep HB27.out Hlt1.out E2.out; have z27_3 := cell_keep HB27.out Hlt1.out E3.out; have z27_4 := cell_keep HB27.out Hlt2.out E4.out; have z27_5 := cell_keep HB27.out Hlt2.out E5.out; have z27_6 := cell_keep HB27.out Hlt3.out E6.out; have z27_7 := cell_keep HB27.out Hlt3.out E7.out; have z27_8 := cell_keep HB27.out Hlt4.out E8.out; have z27_9 := cell_keep HB27.out Hlt4.out E9.out; clear hb27))
          | (go_at_call 8; first
              | (refine (awake_any _).mono ?_; rintro e w30 ⟨rfl, hb30⟩; have hb30' := Lib.hid hb30; have HB30 := Lib.hid (HB29.out.trans (hb30.mono HB29.out.size)); clear z29_0 z29_1 z29_2 z29_3 z29_4 z29_5 z29_6 z29_7 z29_8 z29_9; have z30_0 := cell_keep HB30.out Hlt0.out E0.out; have z30_1 := cell_keep HB30.out Hlt0.out E1.out; have z30_2 := cell_keep HB30.out Hlt1.out E2.out; have z30_3 := cell_keep HB30.out Hlt1.out E3.out; have z30_4 := cell_keep HB30.out Hlt2.out E4.out; have z30_5 := cell_keep HB30.out Hlt2.out E5.out; have z30_6 := cell_keep HB30.out Hlt3.out E6.out; have z30_7 := cell_keep HB30.out Hlt3.out E7.out; have z30_8 := cell_keep HB30.out Hlt4.out E8.out; have z30_9 := cell_keep HB30.out Hlt4.out E9.out; clear hb30)))
        go_ret
        exact ⟨rfl, Hb2.out.trans (HB30.out.mono Hb2.out.size)⟩
  · rw [decide_eq_false h40] at hsh
    go_wp2_with (first
      | (go_at_call 14; refine hsh.mono ?_; rintro e w1 ⟨rfl, hw1⟩; subst hw1)
      | (go_at_call 8; refine (awake_any _).mono ?_; rintro e w2 ⟨rfl, hb2⟩; have Hb2 := Lib.hid (HB1.out.trans (hb2.mono HB1.out.size)); clear hb2))
    go_ret
    exact ⟨rfl, Hb0.out.trans (Hb2.out.mono Hb0.out.size)⟩
end Go.Proofs.Ytejiagmfinhjbaa
