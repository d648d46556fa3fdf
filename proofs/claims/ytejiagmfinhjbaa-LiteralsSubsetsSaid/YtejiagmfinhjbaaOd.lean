/-
  The walk of LiteralsSubsets.
-/
import Derived.Test.YtejiagmfinhjbaaOc
namespace Go.Proofs.Ytejiagmfinhjbaa
open Go.RowKit Go.Ident Go.Names

set_option maxRecDepth 100000 in
set_option maxHeartbeats 64000000 in
theorem subsets_walk (c1 : Bool) (p1 : Option Addr) (k1 : Nat) (L1 : List Nm) (c2 : Bool) (p2 : Option Addr) (k2 : Nat) (L2 : List Nm) (S : Nm) (w : World) (hS1 : SL w p1 L1) (hS2 : SL w p2 L2) :
    Calls Try.prog 5 #[.agg #[.bool c1, .slice p1 L1.length k1], .agg #[.bool c2, .slice p2 L2.length k2], .string (toB S)] w fun e w' => e = .returned (.bool true) ∧ Below w.heap.size w w' := by
  have al : ∀ (w : World) (o : Obj), Below w.heap.size w (w.alloc o) := fun w o => (Below.refl _ _).alloc (Nat.le_refl _) o
  have hb0 : Below w.heap.size w ((w.alloc (.cells #[.bool c1, .slice p1 L1.length k1] 25)).alloc (.cells #[.bool c2, .slice p2 L2.length k2] 25)) := below_alloc (al w _) _
  have hs0 : ((w.alloc (.cells #[.bool c1, .slice p1 L1.length k1] 25)).alloc (.cells #[.bool c2, .slice p2 L2.length k2] 25)).heap.size = w.heap.size + 2 := by simp
  have hr0 := two_row0 w (.cells #[.bool c1, .slice p1 L1.length k1] 25) (.cells #[.bool c2, .slice p2 L2.length k2] 25)
  have hr1 := two_row1 w (.cells #[.bool c1, .slice p1 L1.length k1] 25) (.cells #[.bool c2, .slice p2 L2.length k2] 25)
  have HS1 := Lib.hid (hS1.below hb0); have HS2 := Lib.hid (hS2.below hb0); have Hb0 := Lib.hid hb0
  clear hS1 hS2 hb0
  go_enter Try.func5, Try.ntmps5
  go_upto_region 1 with fail
  generalize (w.alloc (.cells #[.bool c1, .slice p1 L1.length k1] 25)).alloc (.cells #[.bool c2, .slice p2 L2.length k2] 25) = wb at *
  have Hlt0 := Lib.hid (show w.heap.size < wb.heap.size by omega)
  have Hlt1 := Lib.hid (show w.heap.size + 1 < wb.heap.size by omega)
  have X0 := Lib.hid (show wb.cell? ⟨w.heap.size, 0, none⟩ = some (.bool c1) from cell_of_row _ _ _ _ _ _ hr0)
  have X1 := Lib.hid (show wb.cell? ⟨w.heap.size, 1, none⟩ = some (.slice p1 L1.length k1) from cell_of_row _ _ _ _ _ _ hr0)
  have X2 := Lib.hid (show wb.cell? ⟨w.heap.size + 1, 0, none⟩ = some (.bool c2) from cell_of_row _ _ _ _ _ _ hr1)
  have X3 := Lib.hid (show wb.cell? ⟨w.heap.size + 1, 1, none⟩ = some (.slice p2 L2.length k2) from cell_of_row _ _ _ _ _ _ hr1)
  have Hr0 := Lib.hid hr0; have Hr1 := Lib.hid hr1
  clear hr0 hr1 hs0
  have hal := al wb (.cells #[.bool c1, .slice p1 L1.length k1, .bool c2, .slice p2 L2.length k2] 25)
  have hsh := short2_any wb.heap.size 0 L1.length L2.length 2 p1 p2 k1 k2 (wb.alloc (.cells #[.bool c1, .slice p1 L1.length k1, .bool c2, .slice p2 L2.length k2] 25)) (cell_of_row _ _ _ _ _ _ (heap_alloc_new _ _)) (cell_of_row _ _ _ _ _ _ (heap_alloc_new _ _))
  have HB1 := Lib.hid hal
  clear hal
  have y0 := X0.out; have y1 := X1.out; have y2 := X2.out; have y3 := X3.out
  by_cases h40 : L1.length ≤ 40 ∧ L2.length ≤ 40
  · rw [decide_eq_true h40] at hsh
    go_upto_region 3 with (first
      | (go_at_call 14; refine hsh.mono ?_; rintro e w1' ⟨rfl, hw1⟩; subst hw1))
    generalize wb.alloc (.cells #[.bool c1, .slice p1 L1.length k1, .bool c2, .slice p2 L2.length k2] 25) = w1 at *
    have HS := Lib.hid h40
    clear hsh
    have z1_0 := cell_keep HB1.out Hlt0.out X0.out; have z1_1 := cell_keep HB1.out Hlt0.out X1.out; have z1_2 := cell_keep HB1.out Hlt1.out X2.out; have z1_3 := cell_keep HB1.out Hlt1.out X3.out
    clear y0 y1 y2 y3
    have hsub := subB c1 p1 k1 L1 (by omega) c2 p2 k2 L2 (by omega)
    have hrsub := rsubB c1 p1 k1 L1 (by omega) c2 p2 k2 L2 (by omega)
    have hAB := uniB c1 p1 k1 L1 (by omega) c2 p2 k2 L2 (by omega)
    have hBB := uniB c2 p2 k2 L2 (by omega) c2 p2 k2 L2 (by omega)
    have hSS : ∀ (p : Option Addr) (k : Nat) (q : Option Addr) (j : Nat) (w : World), SL w p (uniL c1 L1 c2 L2) → SL w q (uniL c2 L2 c2 L2) → Calls Try.prog 12 #[.agg #[.bool (c1 || c2), .slice p (uniL c1 L1 c2 L2).length k], .agg #[.bool (c2 || c2), .slice q (uniL c2 L2 c2 L2).length j]] w fun e w' => e = .returned (.bool (isSub c1 L1 c2 L2)) ∧ Below w.heap.size w w' := fun p k q j w s1 s2 => by
      have := sameB (c1 || c2) p k _ (Nat.le_trans (uni_len c1 L1 c2 L2) (by omega)) (c2 || c2) q j _ (Nat.le_trans (uni_len c2 L2 c2 L2) (by omega)) w s1 s2
      rw [sameSub] at this
      exact this
    have hHa := hasB c1 p1 k1 L1 S (by omega)
    have hHb := hasB c2 p2 k2 L2 S (by omega)
    have hlaw : isSub c1 L1 c2 L2 = true → (c1 && !c2) = false ∧ (has c1 L1 S = true → has c2 L2 S = true) := fun h => by
      rw [isSub_iff] at h
      exact ⟨h.1, h.2 S⟩
    generalize isSub c1 L1 c2 L2 = IS at *
    generalize uniL c1 L1 c2 L2 = MA at *
    generalize uniL c2 L2 c2 L2 = MB at *
    generalize hCA : (c1 || c2) = CA at *
    generalize hCB : (c2 || c2) = CB at *
    generalize has c1 L1 S = HA at *
    generalize has c2 L2 S = HD at *
    clear hCA hCB h40
    have Hlaw := Lib.hid hlaw
    have HSt := Lib.hid (show ∀ w', Below wb.heap.size wb w' → SL w' p1 L1 ∧ SL w' p2 L2 from fun w' h => ⟨HS1.out.below h, HS2.out.below h⟩)
    clear hlaw
    go_upto_region 4 with (first
      | (go_at_call 19; refine (hsub _ (HSt.out _ HB1.out).1 (HSt.out _ HB1.out).2).mono ?_; rintro e w2 ⟨rfl, hb2⟩; have hb2' := Lib.hid hb2; have HB2 := Lib.hid (HB1.out.trans (hb2.mono HB1.out.size)); have z2_0 := cell_keep HB2.out Hlt0.out X0.out; have z2_1 := cell_keep HB2.out Hlt0.out X1.out; have z2_2 := cell_keep HB2.out Hlt1.out X2.out; have z2_3 := cell_keep HB2.out Hlt1.out X3.out; clear hb2))
    cases IS with
    | true =>
      have Hl1 := Hlaw.out rfl
      cases c1 <;> cases c2 <;> cases HA <;> cases HD <;> first
        | (exact absurd Hl1.1 (by decide))
        | (exact absurd (Hl1.2 rfl) (by decide))
        | (clear Hl1 Hlaw
           go_wp2_with (first
             | ((with_reducible refine Lex.at_finK ?_); refine LexK.finE_on (by kernel_rfl) (by repeat first | exact LexK.finL_nil | refine LexK.finL_none rfl ?_ | refine LexK.finL_skip (by decide +kernel) ?_ | refine LexK.finL_take rfl Hlt0.out z21_0 ?_ | refine LexK.finL_take rfl Hlt1.out z21_2 ?_ | refine LexK.finL_take rfl Hlt0.out z20_0 ?_ | refine LexK.finL_take rfl Hlt1.out z20_2 ?_ | refine LexK.finL_take rfl Hlt0.out z2_0 ?_ | refine LexK.finL_take rfl Hlt1.out z2_2 ?_) ?_)
             | ((with_reducible refine Lex.at_region ?_); refine LexK.wp_region_lexE (fun b => b < wb.heap.size) (by kernel_rfl) (by decide +kernel) ?_)
             | ((with_reducible refine Lex.at_wpX ?_); with_reducible refine LexK.wpX_plain (by decide +kernel) ?_)
             | ((with_reducible refine Lex.at_wpX ?_); with_reducible refine LexK.wpX_call ?_)
             | ((with_reducible refine Lex.at_wpX ?_); with_reducible refine LexK.wpX_nil ?_)
             | ((with_reducible refine Lex.at_ext ?_); first
                 | with_reducible refine LexK.ext_on (LexK.Ext.of_below hb34'.out (Nat.le_refl _)) ?_
                 | with_reducible refine LexK.ext_on (LexK.Ext.of_below hb33'.out (Nat.le_refl _)) ?_
                 | with_reducible refine LexK.ext_on (LexK.Ext.of_below hb32'.out (Nat.le_refl _)) ?_
                 | with_reducible refine LexK.ext_on (LexK.Ext.of_below hb31'.out (Nat.le_refl _)) ?_
                 | with_reducible refine LexK.ext_on (LexK.Ext.of_below hb30'.out (Nat.le_refl _)) ?_)
             | (go_at_call 20; first
                 | (refine (hHb _ (HSt.out _ HB20.out).2).mono ?_; rintro e w21 ⟨rfl, hb21⟩; have hb21' := Lib.hid hb21; have HB21 := Lib.hid (HB20.out.trans (hb21.mono HB20.out.size)); have z21_0 := cell_keep HB21.out Hlt0.out X0.out; have z21_1 := cell_keep HB21.out Hlt0.out X1.out; have z21_2 := cell_keep HB21.out Hlt1.out X2.out; have z21_3 := cell_keep HB21.out Hlt1.out X3.out; clear hb21)
                 | (refine (hHa _ (HSt.out _ HB2.out).1).mono ?_; rintro e w20 ⟨rfl, hb20⟩; have hb20' := Lib.hid hb20; have HB20 := Lib.hid (HB2.out.trans (hb20.mono HB2.out.size)); have z20_0 := cell_keep HB20.out Hlt0.out X0.out; have z20_1 := cell_keep HB20.out Hlt0.out X1.out; have z20_2 := cell_keep HB20.out Hlt1.out X2.out; have z20_3 := cell_keep HB20.out Hlt1.out X3.out; clear hb20))
             | (go_at_call 21; first
                 | (refine (hrsub _ (HSt.out _ HB21.out.drew).1 (HSt.out _ HB21.out.drew).2).mono ?_; rintro e w30 ⟨rfl, hb30⟩; have hb30' := Lib.hid hb30; have HB30 := Lib.hid (HB21.out.drew.trans (hb30.mono HB21.out.size)); have z30_0 := cell_keep HB30.out Hlt0.out X0.out; have z30_1 := cell_keep HB30.out Hlt0.out X1.out; have z30_2 := cell_keep HB30.out Hlt1.out X2.out; have z30_3 := cell_keep HB30.out Hlt1.out X3.out; clear hb30)
                 | (refine (hrsub _ (HSt.out _ HB20.out.drew).1 (HSt.out _ HB20.out.drew).2).mono ?_; rintro e w30 ⟨rfl, hb30⟩; have hb30' := Lib.hid hb30; have HB30 := Lib.hid (HB20.out.drew.trans (hb30.mono HB20.out.size)); have z30_0 := cell_keep HB30.out Hlt0.out X0.out; have z30_1 := cell_keep HB30.out Hlt0.out X1.out; have z30_2 := cell_keep HB30.out Hlt1.out X2.out; have z30_3 := cell_keep HB30.out Hlt1.out X3.out; clear hb30)
                 | (refine (hrsub _ (HSt.out _ HB2.out.drew).1 (HSt.out _ HB2.out.drew).2).mono ?_; rintro e w30 ⟨rfl, hb30⟩; have hb30' := Lib.hid hb30; have HB30 := Lib.hid (HB2.out.drew.trans (hb30.mono HB2.out.size)); have z30_0 := cell_keep HB30.out Hlt0.out X0.out; have z30_1 := cell_keep HB30.out Hlt0.out X1.out; have z30_2 := cell_keep HB30.out Hlt1.out X2.out; have z30_3 := cell_keep HB30.out Hlt1.out X3.out; clear hb30))
             | (go_at_call 11; first
                 | (refine (hBB _ (HSt.out _ HB31.out).2 (HSt.out _ HB31.out).2).mono ?_; rintro e w32 ⟨pb, kb, rfl, sb, hb32⟩; have hb32' := Lib.hid hb32; have HB32 := Lib.hid (HB31.out.trans (hb32.mono HB31.out.size)); have z32_0 := cell_keep HB32.out Hlt0.out X0.out; have z32_1 := cell_keep HB32.out Hlt0.out X1.out; have z32_2 := cell_keep HB32.out Hlt1.out X2.out; have z32_3 := cell_keep HB32.out Hlt1.out X3.out; have Sb := Lib.hid sb; have Sa2 := Lib.hid (Sa.out.below hb32); clear sb; clear hb32)
                 | (refine (hAB _ (HSt.out _ HB30.out).1 (HSt.out _ HB30.out).2).mono ?_; rintro e w31 ⟨pa, ka, rfl, sa, hb31⟩; have hb31' := Lib.hid hb31; have HB31 := Lib.hid (HB30.out.trans (hb31.mono HB30.out.size)); have z31_0 := cell_keep HB31.out Hlt0.out X0.out; have z31_1 := cell_keep HB31.out Hlt0.out X1.out; have z31_2 := cell_keep HB31.out Hlt1.out X2.out; have z31_3 := cell_keep HB31.out Hlt1.out X3.out; have Sa := Lib.hid sa; clear sa; clear hb31))
             | (go_at_call 12; first
                 | (refine (hSS _ _ _ _ _ Sa2.out Sb.out).mono ?_; rintro e w33 ⟨rfl, hb33⟩; have hb33' := Lib.hid hb33; have HB33 := Lib.hid (HB32.out.trans (hb33.mono HB32.out.size)); have z33_0 := cell_keep HB33.out Hlt0.out X0.out; have z33_1 := cell_keep HB33.out Hlt0.out X1.out; have z33_2 := cell_keep HB33.out Hlt1.out X2.out; have z33_3 := cell_keep HB33.out Hlt1.out X3.out; clear hb33))
             | (go_at_call 8; first
                 | (refine (awake_any _).mono ?_; rintro e w34 ⟨rfl, hb34⟩; have hb34' := Lib.hid hb34; have HB34 := Lib.hid (HB33.out.trans (hb34.mono HB33.out.size)); have z34_0 := cell_keep HB34.out Hlt0.out X0.out; have z34_1 := cell_keep HB34.out Hlt0.out X1.out; have z34_2 := cell_keep HB34.out Hlt1.out X2.out; have z34_3 := cell_keep HB34.out Hlt1.out X3.out; clear hb34)))
           go_ret
           exact ⟨rfl, Hb0.out.trans (HB34.out.mono Hb0.out.size)⟩)
    | false =>
      go_wp2_with (first
        | ((with_reducible refine Lex.at_finK ?_); refine LexK.finE_on (by kernel_rfl) (by repeat first | exact LexK.finL_nil | refine LexK.finL_none rfl ?_ | refine LexK.finL_skip (by decide +kernel) ?_ | refine LexK.finL_take rfl Hlt0.out z21_0 ?_ | refine LexK.finL_take rfl Hlt1.out z21_2 ?_ | refine LexK.finL_take rfl Hlt0.out z20_0 ?_ | refine LexK.finL_take rfl Hlt1.out z20_2 ?_ | refine LexK.finL_take rfl Hlt0.out z2_0 ?_ | refine LexK.finL_take rfl Hlt1.out z2_2 ?_) ?_)
        | ((with_reducible refine Lex.at_region ?_); refine LexK.wp_region_lexE (fun b => b < wb.heap.size) (by kernel_rfl) (by decide +kernel) ?_)
        | ((with_reducible refine Lex.at_wpX ?_); with_reducible refine LexK.wpX_plain (by decide +kernel) ?_)
        | ((with_reducible refine Lex.at_wpX ?_); with_reducible refine LexK.wpX_call ?_)
        | ((with_reducible refine Lex.at_wpX ?_); with_reducible refine LexK.wpX_nil ?_)
        | ((with_reducible refine Lex.at_ext ?_); first
            | with_reducible refine LexK.ext_on (LexK.Ext.of_below hb34'.out (Nat.le_refl _)) ?_
            | with_reducible refine LexK.ext_on (LexK.Ext.of_below hb33'.out (Nat.le_refl _)) ?_
            | with_reducible refine LexK.ext_on (LexK.Ext.of_below hb32'.out (Nat.le_refl _)) ?_
            | with_reducible refine LexK.ext_on (LexK.Ext.of_below hb31'.out (Nat.le_refl _)) ?_
            | with_reducible refine LexK.ext_on (LexK.Ext.of_below hb30'.out (Nat.le_refl _)) ?_)
        | (go_at_call 20; first
            | (refine (hHb _ (HSt.out _ HB20.out).2).mono ?_; rintro e w21 ⟨rfl, hb21⟩; have hb21' := Lib.hid hb21; have HB21 := Lib.hid (HB20.out.trans (hb21.mono HB20.out.size)); have z21_0 := cell_keep HB21.out Hlt0.out X0.out; have z21_1 := cell_keep HB21.out Hlt0.out X1.out; have z21_2 := cell_keep HB21.out Hlt1.out X2.out; have z21_3 := cell_keep HB21.out Hlt1.out X3.out; clear hb21)
            | (refine (hHa _ (HSt.out _ HB2.out).1).mono ?_; rintro e w20 ⟨rfl, hb20⟩; have hb20' := Lib.hid hb20; have HB20 := Lib.hid (HB2.out.trans (hb20.mono HB2.out.size)); have z20_0 := cell_keep HB20.out Hlt0.out X0.out; have z20_1 := cell_keep HB20.out Hlt0.out X1.out; have z20_2 := cell_keep HB20.out Hlt1.out X2.out; have z20_3 := cell_keep HB20.out Hlt1.out X3.out; clear hb20))
        | (go_at_call 21; first
            | (refine (hrsub _ (HSt.out _ HB21.out.drew).1 (HSt.out _ HB21.out.drew).2).mono ?_; rintro e w30 ⟨rfl, hb30⟩; have hb30' := Lib.hid hb30; have HB30 := Lib.hid (HB21.out.drew.trans (hb30.mono HB21.out.size)); have z30_0 := cell_keep HB30.out Hlt0.out X0.out; have z30_1 := cell_keep HB30.out Hlt0.out X1.out; have z30_2 := cell_keep HB30.out Hlt1.out X2.out; have z30_3 := cell_keep HB30.out Hlt1.out X3.out; clear hb30)
            | (refine (hrsub _ (HSt.out _ HB20.out.drew).1 (HSt.out _ HB20.out.drew).2).mono ?_; rintro e w30 ⟨rfl, hb30⟩; have hb30' := Lib.hid hb30; have HB30 := Lib.hid (HB20.out.drew.trans (hb30.mono HB20.out.size)); have z30_0 := cell_keep HB30.out Hlt0.out X0.out; have z30_1 := cell_keep HB30.out Hlt0.out X1.out; have z30_2 := cell_keep HB30.out Hlt1.out X2.out; have z30_3 := cell_keep HB30.out Hlt1.out X3.out; clear hb30)
            | (refine (hrsub _ (HSt.out _ HB2.out.drew).1 (HSt.out _ HB2.out.drew).2).mono ?_; rintro e w30 ⟨rfl, hb30⟩; have hb30' := Lib.hid hb30; have HB30 := Lib.hid (HB2.out.drew.trans (hb30.mono HB2.out.size)); have z30_0 := cell_keep HB30.out Hlt0.out X0.out; have z30_1 := cell_keep HB30.out Hlt0.out X1.out; have z30_2 := cell_keep HB30.out Hlt1.out X2.out; have z30_3 := cell_keep HB30.out Hlt1.out X3.out; clear hb30))
        | (go_at_call 11; first
            | (refine (hBB _ (HSt.out _ HB31.out).2 (HSt.out _ HB31.out).2).mono ?_; rintro e w32 ⟨pb, kb, rfl, sb, hb32⟩; have hb32' := Lib.hid hb32; have HB32 := Lib.hid (HB31.out.trans (hb32.mono HB31.out.size)); have z32_0 := cell_keep HB32.out Hlt0.out X0.out; have z32_1 := cell_keep HB32.out Hlt0.out X1.out; have z32_2 := cell_keep HB32.out Hlt1.out X2.out; have z32_3 := cell_keep HB32.out Hlt1.out X3.out; have Sb := Lib.hid sb; have Sa2 := Lib.hid (Sa.out.below hb32); clear sb; clear hb32)
            | (refine (hAB _ (HSt.out _ HB30.out).1 (HSt.out _ HB30.out).2).mono ?_; rintro e w31 ⟨pa, ka, rfl, sa, hb31⟩; have hb31' := Lib.hid hb31; have HB31 := Lib.hid (HB30.out.trans (hb31.mono HB30.out.size)); have z31_0 := cell_keep HB31.out Hlt0.out X0.out; have z31_1 := cell_keep HB31.out Hlt0.out X1.out; have z31_2 := cell_keep HB31.out Hlt1.out X2.out; have z31_3 := cell_keep HB31.out Hlt1.out X3.out; have Sa := Lib.hid sa; clear sa; clear hb31))
        | (go_at_call 12; first
            | (refine (hSS _ _ _ _ _ Sa2.out Sb.out).mono ?_; rintro e w33 ⟨rfl, hb33⟩; have hb33' := Lib.hid hb33; have HB33 := Lib.hid (HB32.out.trans (hb33.mono HB32.out.size)); have z33_0 := cell_keep HB33.out Hlt0.out X0.out; have z33_1 := cell_keep HB33.out Hlt0.out X1.out; have z33_2 := cell_keep HB33.out Hlt1.out X2.out; have z33_3 := cell_keep HB33.out Hlt1.out X3.out; clear hb33))
        | (go_at_call 8; first
            | (refine (awake_any _).mono ?_; rintro e w34 ⟨rfl, hb34⟩; have hb34' := Lib.hid hb34; have HB34 := Lib.hid (HB33.out.trans (hb34.mono HB33.out.size)); have z34_0 := cell_keep HB34.out Hlt0.out X0.out; have z34_1 := cell_keep HB34.out Hlt0.out X1.out; have z34_2 := cell_keep HB34.out Hlt1.out X2.out; have z34_3 := cell_keep HB34.out Hlt1.out X3.out; clear hb34)))
      go_ret
      exact ⟨rfl, Hb0.out.trans (HB34.out.mono Hb0.out.size)⟩
  · rw [decide_eq_false h40] at hsh
    go_wp2_with (first
      | (go_at_call 14; refine hsh.mono ?_; rintro e w1 ⟨rfl, hw1⟩; subst hw1)
      | (go_at_call 8; refine (awake_any _).mono ?_; rintro e w2 ⟨rfl, hb2⟩; have Hb2 := Lib.hid (HB1.out.trans (hb2.mono HB1.out.size)); clear hb2))
    go_ret
    exact ⟨rfl, Hb0.out.trans (Hb2.out.mono Hb0.out.size)⟩
end Go.Proofs.Ytejiagmfinhjbaa
