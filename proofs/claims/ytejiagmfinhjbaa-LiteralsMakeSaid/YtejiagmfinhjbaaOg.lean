/-
  The walk of LiteralsAlgebra.
-/
import Derived.Test.YtejiagmfinhjbaaOe
namespace Go.Proofs.Ytejiagmfinhjbaa
open Go.RowKit Go.Ident Go.Names

set_option maxRecDepth 100000 in
set_option maxHeartbeats 64000000 in
theorem algebra_walk (p1 : Option Addr) (k1 : Nat) (L1 : List Nm) (p2 : Option Addr) (k2 : Nat) (L2 : List Nm) (x y : Bool) (w : World) (hS1 : SL w p1 L1) (hS2 : SL w p2 L2) :
    Calls Try.prog 3 #[.slice p1 L1.length k1, .slice p2 L2.length k2, .bool x, .bool y] w fun e w' => e = .returned (.bool true) ∧ Below w.heap.size w w' := by
  by_cases h1 : L1.length ≤ 30
  · by_cases h2 : L2.length ≤ 30
    · have hm1 := makeNames_any x p1 k1 L1 (by omega) w hS1
      have hm2 := fun (w : World) (h : SL w p2 L2) => makeNames_any y p2 k2 L2 (by omega) w h
      have HS2 := Lib.hid hS2; clear hS2
      have e1 := nrm_nrm L1
      have e2 := nrm_nrm L2
      have l1 := nrm_len L1
      have l2 := nrm_len L2
      generalize nrm L1 = M1 at *
      generalize nrm L2 = M2 at *
      have hC1 : ∀ (p : Option Addr) (k : Nat) (w : World), SL w p M1 → Calls Try.prog 10 #[.agg #[.bool x, .slice p M1.length k]] w (NB w (!x) M1) := fun p k w h => by
        have := comB x p k M1 (by omega) w h
        rw [e1] at this
        exact this
      have hC2 : ∀ (p : Option Addr) (k : Nat) (w : World), SL w p M1 → Calls Try.prog 10 #[.agg #[.bool (!x), .slice p M1.length k]] w (NB w x M1) := fun p k w h => by
        have := comB (!x) p k M1 (by omega) w h
        rw [e1, Bool.not_not] at this
        exact this
      have hCB : ∀ (p : Option Addr) (k : Nat) (w : World), SL w p M2 → Calls Try.prog 10 #[.agg #[.bool y, .slice p M2.length k]] w (NB w (!y) M2) := fun p k w h => by
        have := comB y p k M2 (by omega) w h
        rw [e2] at this
        exact this
      have hU : ∀ (p : Option Addr) (k : Nat) (q : Option Addr) (j : Nat) (w : World), SL w p M1 → SL w q M2 → Calls Try.prog 11 #[.agg #[.bool x, .slice p M1.length k], .agg #[.bool y, .slice q M2.length j]] w (NB w (x || y) (uniL x M1 y M2)) := fun p k q j => uniB x p k M1 (by omega) y q j M2 (by omega)
      have hCU : ∀ (p : Option Addr) (k : Nat) (w : World), SL w p (uniL x M1 y M2) → Calls Try.prog 10 #[.agg #[.bool (x || y), .slice p (uniL x M1 y M2).length k]] w (NB w (!(x || y)) (nrm (uniL x M1 y M2))) := fun p k => comB (x || y) p k _ (Nat.le_trans (uni_len _ _ _ _) (by omega))
      have hI : ∀ (p : Option Addr) (k : Nat) (q : Option Addr) (j : Nat) (w : World), SL w p M1 → SL w q M2 → Calls Try.prog 13 #[.agg #[.bool (!x), .slice p M1.length k], .agg #[.bool (!y), .slice q M2.length j]] w (NB w (!(x || y)) (nrm (uniL x M1 y M2))) := fun p k q j w h1 h2 => by
        have := intB (!x) p k M1 (by omega) (!y) q j M2 (by omega) w h1 h2
        rw [morgan, e1, e2, Bool.not_or]
        exact this
      have hUU : ∀ (p : Option Addr) (k : Nat) (q : Option Addr) (j : Nat) (w : World), SL w p M1 → SL w q M1 → Calls Try.prog 11 #[.agg #[.bool x, .slice p M1.length k], .agg #[.bool x, .slice q M1.length j]] w (NB w x M1) := fun p k q j w h1 h2 => by
        have := uniB x p k M1 (by omega) x q j M1 (by omega) w h1 h2
        rw [uni_self, e1, Bool.or_self] at this
        exact this
      have hs1 := fun (p1 : Option Addr) (k1 : Nat) (p2 : Option Addr) (k2 : Nat) => sameS x p1 k1 p2 k2 M1 (by omega)
      have hs2 := fun (p1 : Option Addr) (k1 : Nat) (p2 : Option Addr) (k2 : Nat) => sameS (!(x || y)) p1 k1 p2 k2 (nrm (uniL x M1 y M2)) (Nat.le_trans (nrm_len _) (Nat.le_trans (uni_len _ _ _ _) (by omega)))
      clear e1 e2 l1 l2
      generalize nrm (uniL x M1 y M2) = MN at *
      generalize uniL x M1 y M2 = MU at *
      generalize (!(x || y)) = NU at *
      generalize (x || y) = CU at *
      generalize (!x) = NX at *
      generalize (!y) = NY at *
      go_enter Try.func3, Try.ntmps3
      go_upto_region 4 with (first
        | (go_at_call 9; first
            | (refine (hm2 _ HS2'.out).mono ?_; rintro e w2 ⟨q2, j2, rfl, s2, _, hb2⟩; have S2 := Lib.hid s2; have S1' := Lib.hid (S1.out.below hb2); have HB2 := Lib.hid (HB1.out.trans (hb2.mono HB1.out.size)); clear s2 hb2)
            | (refine hm1.mono ?_; rintro e w1 ⟨q1, j1, rfl, s1, _, hb1⟩; have S1 := Lib.hid s1; have HS2' := Lib.hid (HS2.out.below hb1); have HB1 := Lib.hid hb1; clear s1 hb1)))
      have hb3 : Below w2.heap.size w2 ((w2.alloc (.cells #[.bool x, .slice q1 M1.length j1] 25)).alloc (.cells #[.bool y, .slice q2 M2.length j2] 25)) := below_alloc ((Below.refl _ _).alloc (Nat.le_refl _) _) _
      have hs3 : ((w2.alloc (.cells #[.bool x, .slice q1 M1.length j1] 25)).alloc (.cells #[.bool y, .slice q2 M2.length j2] 25)).heap.size = w2.heap.size + 2 := by simp
      have hr0 := two_row0 w2 (.cells #[.bool x, .slice q1 M1.length j1] 25) (.cells #[.bool y, .slice q2 M2.length j2] 25)
      have hr1 := two_row1 w2 (.cells #[.bool x, .slice q1 M1.length j1] 25) (.cells #[.bool y, .slice q2 M2.length j2] 25)
      have Hbw := Lib.hid (HB2.out.trans (hb3.mono HB2.out.size))
      have HSA := Lib.hid (S1'.out.below hb3); have HSB := Lib.hid (S2.out.below hb3)
      clear hb3 HB1 HB2 HS2' S1 S1' S2 HS2 hm1 hm2 hS1
      generalize (w2.alloc (.cells #[.bool x, .slice q1 M1.length j1] 25)).alloc (.cells #[.bool y, .slice q2 M2.length j2] 25) = wm at *
      have Hlt0 := Lib.hid (show w2.heap.size < wm.heap.size by omega)
      have Hlt1 := Lib.hid (show w2.heap.size + 1 < wm.heap.size by omega)
      clear hs3
      generalize w2.heap.size = g at *
      have E0 := Lib.hid (show wm.cell? ⟨g, 0, none⟩ = some (.bool x) from cell_of_row _ _ _ _ _ _ hr0)
      have E1 := Lib.hid (show wm.cell? ⟨g, 1, none⟩ = some (.slice q1 M1.length j1) from cell_of_row _ _ _ _ _ _ hr0)
      have E2 := Lib.hid (show wm.cell? ⟨g + 1, 0, none⟩ = some (.bool y) from cell_of_row _ _ _ _ _ _ hr1)
      have E3 := Lib.hid (show wm.cell? ⟨g + 1, 1, none⟩ = some (.slice q2 M2.length j2) from cell_of_row _ _ _ _ _ _ hr1)
      clear hr0 hr1
      have HB0 := Lib.hid (Below.refl wm.heap.size wm)
      have HSt := Lib.hid (show ∀ w', Below wm.heap.size wm w' → SL w' q1 M1 ∧ SL w' q2 M2 from fun w' h => ⟨HSA.out.below h, HSB.out.below h⟩)
      clear HSA HSB
      have z0_0 := E0.out; have z0_1 := E1.out; have z0_2 := E2.out; have z0_3 := E3.out
      go_upto_region 5 with (first
        | ((with_reducible refine Lex.at_finK ?_); refine LexK.finE_on (by kernel_rfl) (by repeat first | exact LexK.finL_nil | refine LexK.finL_none rfl ?_ | refine LexK.finL_skip (by decide +kernel) ?_ | refine LexK.finL_take rfl Hlt0.out (cell_keep HB0.out.drew Hlt0.out E0.out) ?_ | refine LexK.finL_take rfl Hlt1.out (cell_keep HB0.out.drew Hlt1.out E2.out) ?_) ?_)
        | ((with_reducible refine Lex.at_region ?_); refine LexK.wp_region_lexE (fun b => b < wm.heap.size) (by kernel_rfl) (by decide +kernel) ?_)
        | ((with_reducible refine Lex.at_wpX ?_); with_reducible refine LexK.wpX_plain (by decide +kernel) ?_)
        | ((with_reducible refine Lex.at_wpX ?_); with_reducible refine LexK.wpX_call ?_)
        | ((with_reducible refine Lex.at_wpX ?_); with_reducible refine LexK.wpX_nil ?_)
        | ((with_reducible refine Lex.at_ext ?_); first
            | with_reducible refine LexK.ext_on (LexK.Ext.of_below hb11'.out (Nat.le_refl _)) ?_
            | with_reducible refine LexK.ext_on (LexK.Ext.of_below hb10'.out (Nat.le_refl _)) ?_)
        | (go_at_call 11; first
            | (refine (hU _ _ _ _ _ (HSt.out _ HB0.out).1 (HSt.out _ HB0.out).2).mono ?_; rintro e w10 ⟨pu, ku, rfl, su, hb10⟩; have hb10' := Lib.hid hb10; have HB10 := Lib.hid (HB0.out.trans (hb10.mono HB0.out.size)); clear z0_0 z0_1 z0_2 z0_3; have z10_0 := cell_keep HB10.out Hlt0.out E0.out; have z10_1 := cell_keep HB10.out Hlt0.out E1.out; have z10_2 := cell_keep HB10.out Hlt1.out E2.out; have z10_3 := cell_keep HB10.out Hlt1.out E3.out; have Su := Lib.hid su; clear su; clear hb10))
        | (go_at_call 10; first
            | (refine (hCU _ _ _ Su.out).mono ?_; rintro e w11 ⟨pn, kn, rfl, sn, hb11⟩; have hb11' := Lib.hid hb11; have HB11 := Lib.hid (HB10.out.trans (hb11.mono HB10.out.size)); clear z10_0 z10_1 z10_2 z10_3; have z11_0 := cell_keep HB11.out Hlt0.out E0.out; have z11_1 := cell_keep HB11.out Hlt0.out E1.out; have z11_2 := cell_keep HB11.out Hlt1.out E2.out; have z11_3 := cell_keep HB11.out Hlt1.out E3.out; have Sn := Lib.hid sn; clear sn; clear hb11)))
      have hb12 : Below w11.heap.size w11 (w11.alloc (.cells #[.bool NU, .slice pn MN.length kn] 25)) := (Below.refl _ _).alloc (Nat.le_refl _) _
      have hr2 := heap_alloc_new w11 (.cells #[.bool NU, .slice pn MN.length kn] 25)
      have hs3 : (w11.alloc (.cells #[.bool NU, .slice pn MN.length kn] 25)).heap.size = w11.heap.size + 1 := by simp
      have HB12 := Lib.hid (HB11.out.trans (hb12.mono HB11.out.size))
      have Sn' := Lib.hid (Sn.out.below hb12)
      clear hb12 Su Sn z11_0 z11_1 z11_2 z11_3 hb10' hb11' HB10
      generalize w11.alloc (.cells #[.bool NU, .slice pn MN.length kn] 25) = wn at *
      have Hlt2 := Lib.hid (show w11.heap.size < wn.heap.size by omega)
      clear hs3
      have F0 := Lib.hid (cell_keep HB12.out Hlt0.out E0.out)
      have F1 := Lib.hid (cell_keep HB12.out Hlt0.out E1.out)
      have F2 := Lib.hid (cell_keep HB12.out Hlt1.out E2.out)
      have F3 := Lib.hid (cell_keep HB12.out Hlt1.out E3.out)
      have F4 := Lib.hid (show wn.cell? ⟨w11.heap.size, 0, none⟩ = some (.bool NU) from cell_of_row _ _ _ _ _ _ hr2)
      have F5 := Lib.hid (show wn.cell? ⟨w11.heap.size, 1, none⟩ = some (.slice pn MN.length kn) from cell_of_row _ _ _ _ _ _ hr2)
      clear hr2 HB11
      have Hlt0' := Lib.hid (Nat.lt_of_lt_of_le Hlt0.out HB12.out.size); have Hlt1' := Lib.hid (Nat.lt_of_lt_of_le Hlt1.out HB12.out.size)
      have Hbw' := Lib.hid (Hbw.out.trans (HB12.out.mono Hbw.out.size))
      have HSt' := Lib.hid (show ∀ w', Below wn.heap.size wn w' → SL w' q1 M1 ∧ SL w' q2 M2 ∧ SL w' pn MN from fun w' h => ⟨(HSt.out _ HB12.out).1.below h, (HSt.out _ HB12.out).2.below h, Sn'.out.below h⟩)
      clear Sn' HB0 HB12
      generalize w11.heap.size = g2 at *
      have HB0 := Lib.hid (Below.refl wn.heap.size wn)
      have z0_0 := F0.out; have z0_1 := F1.out; have z0_2 := F2.out; have z0_3 := F3.out; have z0_4 := F4.out; have z0_5 := F5.out
      go_wp2_with (first
        | ((with_reducible refine Lex.at_finK ?_); refine LexK.finE_on (by kernel_rfl) (by repeat first | exact LexK.finL_nil | refine LexK.finL_none rfl ?_ | refine LexK.finL_skip (by decide +kernel) ?_ | refine LexK.finL_take rfl Hlt0'.out (cell_keep HB0.out.drew Hlt0'.out F0.out) ?_ | refine LexK.finL_take rfl Hlt1'.out (cell_keep HB0.out.drew Hlt1'.out F2.out) ?_ | refine LexK.finL_take rfl Hlt2.out (cell_keep HB0.out.drew Hlt2.out F4.out) ?_) ?_)
        | ((with_reducible refine Lex.at_region ?_); refine LexK.wp_region_lexE (fun b => b < wn.heap.size) (by kernel_rfl) (by decide +kernel) ?_)
        | ((with_reducible refine Lex.at_wpX ?_); with_reducible refine LexK.wpX_plain (by decide +kernel) ?_)
        | ((with_reducible refine Lex.at_wpX ?_); with_reducible refine LexK.wpX_call ?_)
        | ((with_reducible refine Lex.at_wpX ?_); with_reducible refine LexK.wpX_nil ?_)
        | ((with_reducible refine Lex.at_ext ?_); first
            | with_reducible refine LexK.ext_on (LexK.Ext.of_below hb29'.out (Nat.le_refl _)) ?_
            | with_reducible refine LexK.ext_on (LexK.Ext.of_below hb28'.out (Nat.le_refl _)) ?_
            | with_reducible refine LexK.ext_on (LexK.Ext.of_below hb27'.out (Nat.le_refl _)) ?_
            | with_reducible refine LexK.ext_on (LexK.Ext.of_below hb26'.out (Nat.le_refl _)) ?_
            | with_reducible refine LexK.ext_on (LexK.Ext.of_below hb25'.out (Nat.le_refl _)) ?_
            | with_reducible refine LexK.ext_on (LexK.Ext.of_below hb24'.out (Nat.le_refl _)) ?_
            | with_reducible refine LexK.ext_on (LexK.Ext.of_below hb23'.out (Nat.le_refl _)) ?_
            | with_reducible refine LexK.ext_on (LexK.Ext.of_below hb22'.out (Nat.le_refl _)) ?_
            | with_reducible refine LexK.ext_on (LexK.Ext.of_below hb21'.out (Nat.le_refl _)) ?_
            | with_reducible refine LexK.ext_on (LexK.Ext.of_below hb20'.out (Nat.le_refl _)) ?_)
        | (go_at_call 10; first
            | (refine (hCB _ _ _ (HSt'.out _ HB23.out).2.1).mono ?_; rintro e w24 ⟨p24, k24, rfl, s24, hb24⟩; have hb24' := Lib.hid hb24; have HB24 := Lib.hid (HB23.out.trans (hb24.mono HB23.out.size)); clear z23_0 z23_1 z23_2 z23_3 z23_4 z23_5; have z24_0 := cell_keep HB24.out Hlt0'.out F0.out; have z24_1 := cell_keep HB24.out Hlt0'.out F1.out; have z24_2 := cell_keep HB24.out Hlt1'.out F2.out; have z24_3 := cell_keep HB24.out Hlt1'.out F3.out; have z24_4 := cell_keep HB24.out Hlt2.out F4.out; have z24_5 := cell_keep HB24.out Hlt2.out F5.out; have S24 := Lib.hid s24; have S23b := Lib.hid (S23.out.below hb24); clear s24; clear hb24)
            | (refine (hC1 _ _ _ (HSt'.out _ HB22.out).1).mono ?_; rintro e w23 ⟨p23, k23, rfl, s23, hb23⟩; have hb23' := Lib.hid hb23; have HB23 := Lib.hid (HB22.out.trans (hb23.mono HB22.out.size)); clear z22_0 z22_1 z22_2 z22_3 z22_4 z22_5; have z23_0 := cell_keep HB23.out Hlt0'.out F0.out; have z23_1 := cell_keep HB23.out Hlt0'.out F1.out; have z23_2 := cell_keep HB23.out Hlt1'.out F2.out; have z23_3 := cell_keep HB23.out Hlt1'.out F3.out; have z23_4 := cell_keep HB23.out Hlt2.out F4.out; have z23_5 := cell_keep HB23.out Hlt2.out F5.out; have S23 := Lib.hid s23; clear s23; clear hb23)
            | (refine (hC2 _ _ _ S20.out).mono ?_; rintro e w21 ⟨p21, k21, rfl, s21, hb21⟩; have hb21' := Lib.hid hb21; have HB21 := Lib.hid (HB20.out.trans (hb21.mono HB20.out.size)); clear z20_0 z20_1 z20_2 z20_3 z20_4 z20_5; have z21_0 := cell_keep HB21.out Hlt0'.out F0.out; have z21_1 := cell_keep HB21.out Hlt0'.out F1.out; have z21_2 := cell_keep HB21.out Hlt1'.out F2.out; have z21_3 := cell_keep HB21.out Hlt1'.out F3.out; have z21_4 := cell_keep HB21.out Hlt2.out F4.out; have z21_5 := cell_keep HB21.out Hlt2.out F5.out; have S21 := Lib.hid s21; clear s21; clear hb21)
            | (refine (hC1 _ _ _ (HSt'.out _ HB0.out.drew).1).mono ?_; rintro e w20 ⟨p20, k20, rfl, s20, hb20⟩; have hb20' := Lib.hid hb20; have HB20 := Lib.hid (HB0.out.drew.trans (hb20.mono HB0.out.size)); clear z0_0 z0_1 z0_2 z0_3 z0_4 z0_5; have z20_0 := cell_keep HB20.out Hlt0'.out F0.out; have z20_1 := cell_keep HB20.out Hlt0'.out F1.out; have z20_2 := cell_keep HB20.out Hlt1'.out F2.out; have z20_3 := cell_keep HB20.out Hlt1'.out F3.out; have z20_4 := cell_keep HB20.out Hlt2.out F4.out; have z20_5 := cell_keep HB20.out Hlt2.out F5.out; have S20 := Lib.hid s20; clear s20; clear hb20))
        | (go_at_call 13; first
            | (refine (hI _ _ _ _ _ S23b.out S24.out).mono ?_; rintro e w25 ⟨p25, k25, rfl, s25, hb25⟩; have hb25' := Lib.hid hb25; have HB25 := Lib.hid (HB24.out.trans (hb25.mono HB24.out.size)); clear z24_0 z24_1 z24_2 z24_3 z24_4 z24_5; have z25_0 := cell_keep HB25.out Hlt0'.out F0.out; have z25_1 := cell_keep HB25.out Hlt0'.out F1.out; have z25_2 := cell_keep HB25.out Hlt1'.out F2.out; have z25_3 := cell_keep HB25.out Hlt1'.out F3.out; have z25_4 := cell_keep HB25.out Hlt2.out F4.out; have z25_5 := cell_keep HB25.out Hlt2.out F5.out; have S25 := Lib.hid s25; clear s25; clear hb25))
        | (go_at_call 11; first
            | (refine (hUU _ _ _ _ _ (HSt'.out _ HB26.out).1 (HSt'.out _ HB26.out).1).mono ?_; rintro e w27 ⟨p27, k27, rfl, s27, hb27⟩; have hb27' := Lib.hid hb27; have HB27 := Lib.hid (HB26.out.trans (hb27.mono HB26.out.size)); clear z26_0 z26_1 z26_2 z26_3 z26_4 z26_5; have z27_0 := cell_keep HB27.out Hlt0'.out F0.out; have z27_1 := cell_keep HB27.out Hlt0'.out F1.out; have z27_2 := cell_keep HB27.out Hlt1'.out F2.out; have z27_3 := cell_keep HB27.out Hlt1'.out F3.out; have z27_4 := cell_keep HB27.out Hlt2.out F4.out; have z27_5 := cell_keep HB27.out Hlt2.out F5.out; have S27 := Lib.hid s27; clear s27; clear hb27))
        | (go_at_call 12; first
            | (refine (hs1 _ _ _ _ _ S27.out (HSt'.out _ HB27.out).1).mono ?_; rintro e w28 ⟨rfl, hb28⟩; have hb28' := Lib.hid hb28; have HB28 := Lib.hid (HB27.out.trans (hb28.mono HB27.out.size)); clear z27_0 z27_1 z27_2 z27_3 z27_4 z27_5; have z28_0 := cell_keep HB28.out Hlt0'.out F0.out; have z28_1 := cell_keep HB28.out Hlt0'.out F1.out; have z28_2 := cell_keep HB28.out Hlt1'.out F2.out; have z28_3 := cell_keep HB28.out Hlt1'.out F3.out; have z28_4 := cell_keep HB28.out Hlt2.out F4.out; have z28_5 := cell_keep HB28.out Hlt2.out F5.out; clear hb28)
            | (refine (hs2 _ _ _ _ _ (HSt'.out _ HB25.out).2.2 S25.out).mono ?_; rintro e w26 ⟨rfl, hb26⟩; have hb26' := Lib.hid hb26; have HB26 := Lib.hid (HB25.out.trans (hb26.mono HB25.out.size)); clear z25_0 z25_1 z25_2 z25_3 z25_4 z25_5; have z26_0 := cell_keep HB26.out Hlt0'.out F0.out; have z26_1 := cell_keep HB26.out Hlt0'.out F1.out; have z26_2 := cell_keep HB26.out Hlt1'.out F2.out; have z26_3 := cell_keep HB26.out Hlt1'.out F3.out; have z26_4 := cell_keep HB26.out Hlt2.out F4.out; have z26_5 := cell_keep HB26.out Hlt2.out F5.out; clear hb26)
            | (refine (hs1 _ _ _ _ _ S21.out (HSt'.out _ HB21.out).1).mono ?_; rintro e w22 ⟨rfl, hb22⟩; have hb22' := Lib.hid hb22; have HB22 := Lib.hid (HB21.out.trans (hb22.mono HB21.out.size)); clear z21_0 z21_1 z21_2 z21_3 z21_4 z21_5; have z22_0 := cell_keep HB22.out Hlt0'.out F0.out; have z22_1 := cell_keep HB22.out Hlt0'.out F1.out; have z22_2 := cell_keep HB22.out Hlt1'.out F2.out; have z22_3 := cell_keep HB22.out Hlt1'.out F3.out; have z22_4 := cell_keep HB22.out Hlt2.out F4.out; have z22_5 := cell_keep HB22.out Hlt2.out F5.out; clear hb22))
        | (go_at_call 8; first
            | (refine (awake_any _).mono ?_; rintro e w29 ⟨rfl, hb29⟩; have hb29' := Lib.hid hb29; have HB29 := Lib.hid (HB28.out.trans (hb29.mono HB28.out.size)); clear z28_0 z28_1 z28_2 z28_3 z28_4 z28_5; have z29_0 := cell_keep HB29.out Hlt0'.out F0.out; have z29_1 := cell_keep HB29.out Hlt0'.out F1.out; have z29_2 := cell_keep HB29.out Hlt1'.out F2.out; have z29_3 := cell_keep HB29.out Hlt1'.out F3.out; have z29_4 := cell_keep HB29.out Hlt2.out F4.out; have z29_5 := cell_keep HB29.out Hlt2.out F5.out; clear hb29)))
      go_ret
      exact ⟨rfl, Hbw'.out.trans (HB29.out.mono Hbw'.out.size)⟩
    · go_enter Try.func3, Try.ntmps3
      go_wp2_with (go_at_call 8; refine (awake_any _).mono ?_; rintro e w2 ⟨rfl, hb2⟩; have Hb2 := Lib.hid hb2; clear hb2)
      go_ret
      exact ⟨rfl, Hb2.out⟩
  · go_enter Try.func3, Try.ntmps3
    go_wp2_with (go_at_call 8; refine (awake_any _).mono ?_; rintro e w2 ⟨rfl, hb2⟩; have Hb2 := Lib.hid hb2; clear hb2)
    go_ret
    exact ⟨rfl, Hb2.out⟩
end Go.Proofs.Ytejiagmfinhjbaa
