/-
  The walk of LiteralsMake.
-/
import Derived.Test.YtejiagmfinhjbaaOg
namespace Go.Proofs.Ytejiagmfinhjbaa
open Go.RowKit Go.Ident Go.Names

theorem take_dec (L : List Nm) (S : Nm) (k : Nat) (h : k < L.length) : decide (S ∈ L.take (k + 1)) = (decide (S ∈ L.take k) || decide (L[k] = S)) := by
  rw [List.take_succ_eq_append_getElem h, Bool.eq_iff_iff]
  simp only [List.mem_append, List.mem_singleton, Bool.or_eq_true, decide_eq_true_eq]
  exact or_congr Iff.rfl eq_comm
set_option maxRecDepth 100000 in
set_option maxHeartbeats 64000000 in
theorem make_walk (p : Option Addr) (kk : Nat) (L : List Nm) (S : Nm) (c1 : Bool) (p1 : Option Addr) (k1 : Nat) (L1 : List Nm) (w : World) (hS : SL w p L) (hS1 : SL w p1 L1) :
    Calls Try.prog 6 #[.slice p L.length kk, .string (toB S), .agg #[.bool c1, .slice p1 L1.length k1]] w fun e w' => e = .returned (.bool true) ∧ Below w.heap.size w w' := by
  have hb0 : Below w.heap.size w (w.alloc (.cells #[.bool c1, .slice p1 L1.length k1] 25)) := (Below.refl _ _).alloc (Nat.le_refl _) _
  have hs0 : (w.alloc (.cells #[.bool c1, .slice p1 L1.length k1] 25)).heap.size = w.heap.size + 1 := by simp
  have hr0 := heap_alloc_new w (.cells #[.bool c1, .slice p1 L1.length k1] 25)
  by_cases h1 : L.length ≤ 40
  · have HS := Lib.hid (hS.below hb0); have HS1 := Lib.hid (hS1.below hb0); have Hb0 := Lib.hid hb0
    clear hS hS1 hb0
    go_enter Try.func6, Try.ntmps6
    go_upto_region 1 with fail
    generalize w.alloc (.cells #[.bool c1, .slice p1 L1.length k1] 25) = wb at *
    have Hlt0 := Lib.hid (show w.heap.size < wb.heap.size by omega)
    clear hs0
    have y0 : wb.cell? ⟨w.heap.size, 0, none⟩ = some (.bool c1) := cell_of_row _ _ _ _ _ _ hr0
    have y1 : wb.cell? ⟨w.heap.size, 1, none⟩ = some (.slice p1 L1.length k1) := cell_of_row _ _ _ _ _ _ hr0
    have Hr0 := Lib.hid hr0
    clear hr0
    have hal : Below wb.heap.size wb (wb.alloc (.cells #[.bool c1, .slice p1 L1.length k1] 25)) := (Below.refl _ _).alloc (Nat.le_refl _) _
    have hsh := short1_any wb.heap.size 0 L1.length 1 p1 k1 (wb.alloc (.cells #[.bool c1, .slice p1 L1.length k1] 25)) (cell_of_row _ _ _ _ _ _ (heap_alloc_new _ _))
    have HB1 := Lib.hid hal
    clear hal
    by_cases h40 : L1.length ≤ 40
    · rw [decide_eq_true h40] at hsh
      have HF : Hid (∀ (w : World), SL w p L → Calls Try.prog 22 #[.slice p L.length kk] w (NB w false (nrm L))) := Lib.hid fun w h => (finite_any p kk L (by omega) w h).mono fun e w' h => h.nb
      have HC : Hid (∀ (w : World), SL w p L → Calls Try.prog 23 #[.slice p L.length kk] w (NB w true (nrm L))) := Lib.hid fun w h => (cofinite_any p kk L (by omega) w h).mono fun e w' h => h.nb
      have hl := Nat.le_trans (nrm_len L) h1
      have hvF := fun (p : Option Addr) (k : Nat) => validB false p k _ (asc_nrm L) (Nat.le_trans hl (by omega))
      have hvC := fun (p : Option Addr) (k : Nat) => validB true p k _ (asc_nrm L) (Nat.le_trans hl (by omega))
      have hcF : ∀ (p : Option Addr) (k : Nat) (w : World), SL w p (nrm L) → Calls Try.prog 20 #[.agg #[.bool false, .slice p (nrm L).length k], .string (toB S)] w fun e w' => e = .returned (.bool (decide (S ∈ L))) ∧ Below w.heap.size w w' := fun p k w h => by
        have := contains20_any false p k _ S (Nat.le_trans hl (by omega)) w h
        rw [has_nrm] at this
        unfold has at this
        rw [Bool.bne_false] at this
        exact this
      have hcC : ∀ (p : Option Addr) (k : Nat) (w : World), SL w p (nrm L) → Calls Try.prog 20 #[.agg #[.bool true, .slice p (nrm L).length k], .string (toB S)] w fun e w' => e = .returned (.bool (!decide (S ∈ L))) ∧ Below w.heap.size w w' := fun p k w h => by
        have := contains20_any true p k _ S (Nat.le_trans hl (by omega)) w h
        rw [has_nrm] at this
        unfold has at this
        rw [Bool.bne_true] at this
        exact this
      have hvS := valid_any c1 p1 k1 L1 (by omega)
      have hrS := refValid_any c1 p1 k1 L1 (by omega)
      generalize ascD L1 = V at *
      generalize nrm L = M at *
      clear hl
      have Hin := Lib.hid (show ∀ k, L.length ≤ k → decide (S ∈ L.take k) = decide (S ∈ L) from fun k h => by rw [List.take_of_length_le h])
      generalize decide (S ∈ L) = IN at *
      go_upto_region 4 with (first
        | (go_at_call 14; refine hsh.mono ?_; rintro e w1' ⟨rfl, hw1⟩; subst hw1; have HS' := Lib.hid (HS.out.below HB1.out); clear y0 y1)
        | (go_at_call 22; refine (HF.out _ HS'.out).mono ?_; rintro e w2 ⟨q1, j1, rfl, s1, hb2⟩; have S1 := Lib.hid s1; have HS2' := Lib.hid (HS'.out.below hb2); have HB2 := Lib.hid (HB1.out.trans (hb2.mono HB1.out.size)); clear s1 hb2)
        | (go_at_call 23; refine (HC.out _ HS2'.out).mono ?_; rintro e w3 ⟨q2, j2, rfl, s2, hb3⟩; have S2 := Lib.hid s2; have S1' := Lib.hid (S1.out.below hb3); have HB3 := Lib.hid (HB2.out.trans (hb3.mono HB2.out.size)); clear s2 hb3))
      have hb3 : Below w3.heap.size w3 ((w3.alloc (.cells #[.bool false, .slice q1 M.length j1] 25)).alloc (.cells #[.bool true, .slice q2 M.length j2] 25)) := below_alloc ((Below.refl _ _).alloc (Nat.le_refl _) _) _
      have hs3 : ((w3.alloc (.cells #[.bool false, .slice q1 M.length j1] 25)).alloc (.cells #[.bool true, .slice q2 M.length j2] 25)).heap.size = w3.heap.size + 2 := by simp
      have hr0 := two_row0 w3 (.cells #[.bool false, .slice q1 M.length j1] 25) (.cells #[.bool true, .slice q2 M.length j2] 25)
      have hr1 := two_row1 w3 (.cells #[.bool false, .slice q1 M.length j1] 25) (.cells #[.bool true, .slice q2 M.length j2] 25)
      have Hbm := Lib.hid (HB3.out.trans (hb3.mono HB3.out.size))
      have Hbw := Lib.hid (Hb0.out.trans (Hbm.out.mono Hb0.out.size))
      have HSA := Lib.hid (S1'.out.below hb3); have HSB := Lib.hid (S2.out.below hb3)
      have HSL := Lib.hid (HS.out.below Hbm.out); have HSL1 := Lib.hid (HS1.out.below Hbm.out)
      have Hr2 := Lib.hid (row_keep Hbm.out Hlt0.out Hr0.out)
      have Hlt5 := Lib.hid (Nat.lt_of_lt_of_le Hlt0.out Hbm.out.size)
      clear hb3 HB1 HB2 HB3 HS HS' HS2' S1 S1' S2 HS1 Hb0 Hbm HF HC hsh Hr0 Hlt0
      generalize (w3.alloc (.cells #[.bool false, .slice q1 M.length j1] 25)).alloc (.cells #[.bool true, .slice q2 M.length j2] 25) = wm at *
      have Hlt0 := Lib.hid (show w3.heap.size < wm.heap.size by omega)
      have Hlt1 := Lib.hid (show w3.heap.size + 1 < wm.heap.size by omega)
      clear hs3
      generalize w3.heap.size = g at *
      have E0 := Lib.hid (show wm.cell? ⟨g, 0, none⟩ = some (.bool false) from cell_of_row _ _ _ _ _ _ hr0)
      have E1 := Lib.hid (show wm.cell? ⟨g, 1, none⟩ = some (.slice q1 M.length j1) from cell_of_row _ _ _ _ _ _ hr0)
      have E2 := Lib.hid (show wm.cell? ⟨g + 1, 0, none⟩ = some (.bool true) from cell_of_row _ _ _ _ _ _ hr1)
      have E3 := Lib.hid (show wm.cell? ⟨g + 1, 1, none⟩ = some (.slice q2 M.length j2) from cell_of_row _ _ _ _ _ _ hr1)
      have E4 := Lib.hid (show wm.cell? ⟨w.heap.size, 0, none⟩ = some (.bool c1) from cell_of_row _ _ _ _ _ _ Hr2.out)
      have E5 := Lib.hid (show wm.cell? ⟨w.heap.size, 1, none⟩ = some (.slice p1 L1.length k1) from cell_of_row _ _ _ _ _ _ Hr2.out)
      clear hr0 hr1
      have HB0 := Lib.hid (Below.refl wm.heap.size wm)
      have HSt := Lib.hid (show ∀ w', Below wm.heap.size wm w' → SL w' q1 M ∧ SL w' q2 M ∧ SL w' p1 L1 from fun w' h => ⟨HSA.out.below h, HSB.out.below h, HSL1.out.below h⟩)
      clear HSA HSB HSL1 h40 Hr2
      go_wp2
      go_loop [9, 10] (fun b i => ∃ k : Nat, k ≤ L.length ∧ i = .int .i64 k ∧ b = .bool (decide (S ∈ L.take k))) (fun _ i => L.length - (intOf i).toNat)
      case atStart => exact ⟨0, by omega, rfl, rfl⟩
      case round =>
        obtain ⟨k, hk, rfl, rfl⟩ := hrel
        by_cases hlt : k < L.length
        · obtain ⟨a, oo, rfl, ha, c0⟩ := HSL.out.cell k hlt
          have htk := take_dec L S k hlt
          have Htk := Lib.hid htk; clear htk ha
          have hbl : ((toB L[k]).toList == (toB S).toList) = decide (L[k] = S) := by rw [toB_toList, toB_toList, beq_dec]
          generalize decide (S ∈ L.take k) = B1 at *
          generalize decide (L[k] = S) = B3 at *
          generalize L[k] = x at *
          generalize toB x = sx at *
          generalize toB S = sy at *
          cases B1 with
          | true =>
            go_wp2
            exact ⟨⟨k + 1, by omega, by go_num, by rw [Htk.out]; rfl⟩, by simp [intOf]; omega⟩
          | false =>
            cases B3 with
            | true =>
              go_wp2
              exact ⟨⟨k + 1, by omega, by go_num, by rw [Htk.out]; rfl⟩, by simp [intOf]; omega⟩
            | false =>
              go_wp2
              exact ⟨⟨k + 1, by omega, by go_num, by rw [Htk.out]; rfl⟩, by simp [intOf]; omega⟩
        · rw [Hin.out k (by omega)]
          have z0_0 := E0.out; have z0_1 := E1.out; have z0_2 := E2.out; have z0_3 := E3.out; have z0_4 := E4.out; have z0_5 := E5.out
          cases V <;> cases IN
          all_goals
            go_wp2_with (first
              | ((with_reducible refine Lex.at_finK ?_); refine LexK.finE_on (by kernel_rfl) (by repeat first | exact LexK.finL_nil | refine LexK.finL_none rfl ?_ | refine LexK.finL_skip (by decide +kernel) ?_ | refine LexK.finL_take rfl Hlt0.out (cell_keep HB0.out.drew Hlt0.out E0.out) ?_ | refine LexK.finL_take rfl Hlt1.out (cell_keep HB0.out.drew Hlt1.out E2.out) ?_ | refine LexK.finL_take rfl Hlt5.out (cell_keep HB0.out.drew Hlt5.out E4.out) ?_) ?_)
              | ((with_reducible refine Lex.at_region ?_); refine LexK.wp_region_lexE (fun b => b < wm.heap.size) (by kernel_rfl) (by decide +kernel) ?_)
              | ((with_reducible refine Lex.at_wpX ?_); with_reducible refine LexK.wpX_plain (by decide +kernel) ?_)
              | ((with_reducible refine Lex.at_wpX ?_); with_reducible refine LexK.wpX_call ?_)
              | ((with_reducible refine Lex.at_wpX ?_); with_reducible refine LexK.wpX_nil ?_)
              | ((with_reducible refine Lex.at_ext ?_); first
                  | with_reducible refine LexK.ext_on (LexK.Ext.of_below hb26'.out (Nat.le_refl _)) ?_
                  | with_reducible refine LexK.ext_on (LexK.Ext.of_below hb25'.out (Nat.le_refl _)) ?_
                  | with_reducible refine LexK.ext_on (LexK.Ext.of_below hb24'.out (Nat.le_refl _)) ?_
                  | with_reducible refine LexK.ext_on (LexK.Ext.of_below hb23'.out (Nat.le_refl _)) ?_
                  | with_reducible refine LexK.ext_on (LexK.Ext.of_below hb22'.out (Nat.le_refl _)) ?_
                  | with_reducible refine LexK.ext_on (LexK.Ext.of_below hb21'.out (Nat.le_refl _)) ?_
                  | with_reducible refine LexK.ext_on (LexK.Ext.of_below hb20'.out (Nat.le_refl _)) ?_)
              | (go_at_call 24; first
                  | (refine (hvS _ (HSt.out _ HB23.out).2.2).mono ?_; rintro e w24 ⟨rfl, hb24⟩; have hb24' := Lib.hid hb24; have HB24 := Lib.hid (HB23.out.trans (hb24.mono HB23.out.size)); clear z23_0 z23_1 z23_2 z23_3 z23_4 z23_5; have z24_0 := cell_keep HB24.out Hlt0.out E0.out; have z24_1 := cell_keep HB24.out Hlt0.out E1.out; have z24_2 := cell_keep HB24.out Hlt1.out E2.out; have z24_3 := cell_keep HB24.out Hlt1.out E3.out; have z24_4 := cell_keep HB24.out Hlt5.out E4.out; have z24_5 := cell_keep HB24.out Hlt5.out E5.out; clear hb24)
                  | (refine (hvC _ _ _ (HSt.out _ HB20.out).2.1).mono ?_; rintro e w21 ⟨rfl, hb21⟩; have hb21' := Lib.hid hb21; have HB21 := Lib.hid (HB20.out.trans (hb21.mono HB20.out.size)); clear z20_0 z20_1 z20_2 z20_3 z20_4 z20_5; have z21_0 := cell_keep HB21.out Hlt0.out E0.out; have z21_1 := cell_keep HB21.out Hlt0.out E1.out; have z21_2 := cell_keep HB21.out Hlt1.out E2.out; have z21_3 := cell_keep HB21.out Hlt1.out E3.out; have z21_4 := cell_keep HB21.out Hlt5.out E4.out; have z21_5 := cell_keep HB21.out Hlt5.out E5.out; clear hb21)
                  | (refine (hvF _ _ _ (HSt.out _ HB0.out.drew).1).mono ?_; rintro e w20 ⟨rfl, hb20⟩; have hb20' := Lib.hid hb20; have HB20 := Lib.hid (HB0.out.drew.trans (hb20.mono HB0.out.size)); clear z0_0 z0_1 z0_2 z0_3 z0_4 z0_5; have z20_0 := cell_keep HB20.out Hlt0.out E0.out; have z20_1 := cell_keep HB20.out Hlt0.out E1.out; have z20_2 := cell_keep HB20.out Hlt1.out E2.out; have z20_3 := cell_keep HB20.out Hlt1.out E3.out; have z20_4 := cell_keep HB20.out Hlt5.out E4.out; have z20_5 := cell_keep HB20.out Hlt5.out E5.out; clear hb20))
              | (go_at_call 20; first
                  | (refine (hcC _ _ _ (HSt.out _ HB22.out).2.1).mono ?_; rintro e w23 ⟨rfl, hb23⟩; have hb23' := Lib.hid hb23; have HB23 := Lib.hid (HB22.out.trans (hb23.mono HB22.out.size)); clear z22_0 z22_1 z22_2 z22_3 z22_4 z22_5; have z23_0 := cell_keep HB23.out Hlt0.out E0.out; have z23_1 := cell_keep HB23.out Hlt0.out E1.out; have z23_2 := cell_keep HB23.out Hlt1.out E2.out; have z23_3 := cell_keep HB23.out Hlt1.out E3.out; have z23_4 := cell_keep HB23.out Hlt5.out E4.out; have z23_5 := cell_keep HB23.out Hlt5.out E5.out; clear hb23)
                  | (refine (hcF _ _ _ (HSt.out _ HB21.out).1).mono ?_; rintro e w22 ⟨rfl, hb22⟩; have hb22' := Lib.hid hb22; have HB22 := Lib.hid (HB21.out.trans (hb22.mono HB21.out.size)); clear z21_0 z21_1 z21_2 z21_3 z21_4 z21_5; have z22_0 := cell_keep HB22.out Hlt0.out E0.out; have z22_1 := cell_keep HB22.out Hlt0.out E1.out; have z22_2 := cell_keep HB22.out Hlt1.out E2.out; have z22_3 := cell_keep HB22.out Hlt1.out E3.out; have z22_4 := cell_keep HB22.out Hlt5.out E4.out; have z22_5 := cell_keep HB22.out Hlt5.out E5.out; clear hb22))
              | (go_at_call 25; first
                  | (refine (hrS _ (HSt.out _ HB24.out).2.2).mono ?_; rintro e w25 ⟨rfl, hb25⟩; have hb25' := Lib.hid hb25; have HB25 := Lib.hid (HB24.out.trans (hb25.mono HB24.out.size)); clear z24_0 z24_1 z24_2 z24_3 z24_4 z24_5; have z25_0 := cell_keep HB25.out Hlt0.out E0.out; have z25_1 := cell_keep HB25.out Hlt0.out E1.out; have z25_2 := cell_keep HB25.out Hlt1.out E2.out; have z25_3 := cell_keep HB25.out Hlt1.out E3.out; have z25_4 := cell_keep HB25.out Hlt5.out E4.out; have z25_5 := cell_keep HB25.out Hlt5.out E5.out; clear hb25))
              | (go_at_call 8; first
                  | (refine (awake_any _).mono ?_; rintro e w26 ⟨rfl, hb26⟩; have hb26' := Lib.hid hb26; have HB26 := Lib.hid (HB25.out.trans (hb26.mono HB25.out.size)); clear z25_0 z25_1 z25_2 z25_3 z25_4 z25_5; have z26_0 := cell_keep HB26.out Hlt0.out E0.out; have z26_1 := cell_keep HB26.out Hlt0.out E1.out; have z26_2 := cell_keep HB26.out Hlt1.out E2.out; have z26_3 := cell_keep HB26.out Hlt1.out E3.out; have z26_4 := cell_keep HB26.out Hlt5.out E4.out; have z26_5 := cell_keep HB26.out Hlt5.out E5.out; clear hb26)))
            go_ret
            exact ⟨rfl, Hbw.out.trans (HB26.out.mono Hbw.out.size)⟩
    · rw [decide_eq_false h40] at hsh
      go_wp2_with (first
        | (go_at_call 14; refine hsh.mono ?_; rintro e w1 ⟨rfl, hw1⟩; subst hw1)
        | (go_at_call 8; refine (awake_any _).mono ?_; rintro e w2 ⟨rfl, hb2⟩; have Hb2 := Lib.hid (HB1.out.trans (hb2.mono HB1.out.size)); clear hb2))
      go_ret
      exact ⟨rfl, Hb0.out.trans (Hb2.out.mono Hb0.out.size)⟩
  · have Hb0 := Lib.hid hb0
    clear hb0 hS hS1 hs0 hr0
    go_enter Try.func6, Try.ntmps6
    go_wp2_with (go_at_call 8; refine (awake_any _).mono ?_; rintro e w2 ⟨rfl, hb2⟩; have Hb2 := Lib.hid hb2; clear hb2)
    go_ret
    exact ⟨rfl, Hb0.out.trans (Hb2.out.mono Hb0.out.size)⟩
end Go.Proofs.Ytejiagmfinhjbaa
