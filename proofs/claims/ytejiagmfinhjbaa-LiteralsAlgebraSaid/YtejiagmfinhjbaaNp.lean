/-
  Walks: Union, IsSubset.
-/
import Derived.Test.YtejiagmfinhjbaaNo
namespace Go.Proofs.Ytejiagmfinhjbaa
open Go.RowKit Go.Ident Go.Names

theorem interL_len (c1 : Bool) (l1 : List Nm) (c2 : Bool) (l2 : List Nm) : (interL c1 l1 c2 l2).length ≤ (nrm l1).length + (nrm l2).length := by
  cases c1 <;> cases c2 <;> unfold interL <;> simp only [List.length_append]
  · exact Nat.le_trans (List.length_filter_le _ _) (by omega)
  · exact Nat.le_trans (List.length_filter_le _ _) (by omega)
  · exact Nat.le_trans (List.length_filter_le _ _) (by omega)
  · omega
set_option maxRecDepth 100000 in
set_option maxHeartbeats 32000000 in
theorem union_any (c1 : Bool) (p1 : Option Addr) (cap1 : Nat) (L1 : List Nm) (h1 : L1.length ≤ 50000) (c2 : Bool) (p2 : Option Addr) (cap2 : Nat) (L2 : List Nm) (h2 : L2.length ≤ 50000) (w : World) (hS1 : SL w p1 L1) (hS2 : SL w p2 L2) :
    Calls Try.prog 11 #[.agg #[.bool c1, .slice p1 L1.length cap1], .agg #[.bool c2, .slice p2 L2.length cap2]] w (NA w (!(and (!c1) (!c2))) (nrm (nrm (interL (!c1) (nrm L1) (!c2) (nrm L2))))) := by
  have hb0 : Below w.heap.size w (((w.alloc (.cells #[.bool c1, .slice p1 L1.length cap1] 25)).alloc (.cells #[.bool c2, .slice p2 L2.length cap2] 25)).alloc (.cells #[.bool false, .slice none 0 0] 25)) := below_alloc (below_alloc ((Below.refl _ _).alloc (Nat.le_refl _) _) _) _
  have hS1' := hS1.below hb0
  have hS2' := hS2.below hb0
  have hs0 : (((w.alloc (.cells #[.bool c1, .slice p1 L1.length cap1] 25)).alloc (.cells #[.bool c2, .slice p2 L2.length cap2] 25)).alloc (.cells #[.bool false, .slice none 0 0] 25)).heap.size = w.heap.size + 3 := by simp
  have hr0 : (((w.alloc (.cells #[.bool c1, .slice p1 L1.length cap1] 25)).alloc (.cells #[.bool c2, .slice p2 L2.length cap2] 25)).alloc (.cells #[.bool false, .slice none 0 0] 25)).heap[w.heap.size]? = some (.cells #[.bool c1, .slice p1 L1.length cap1] 25) := (heap_alloc_old _ _ (by simp; omega)).trans (two_row0 w _ _)
  have hr1 : (((w.alloc (.cells #[.bool c1, .slice p1 L1.length cap1] 25)).alloc (.cells #[.bool c2, .slice p2 L2.length cap2] 25)).alloc (.cells #[.bool false, .slice none 0 0] 25)).heap[w.heap.size + 1]? = some (.cells #[.bool c2, .slice p2 L2.length cap2] 25) := (heap_alloc_old _ _ (by simp)).trans (two_row1 w _ _)
  have hr2 : (((w.alloc (.cells #[.bool c1, .slice p1 L1.length cap1] 25)).alloc (.cells #[.bool c2, .slice p2 L2.length cap2] 25)).alloc (.cells #[.bool false, .slice none 0 0] 25)).heap[w.heap.size + 2]? = some (.cells #[.bool false, .slice none 0 0] 25) := by
    have := heap_alloc_new ((w.alloc (.cells #[.bool c1, .slice p1 L1.length cap1] 25)).alloc (.cells #[.bool c2, .slice p2 L2.length cap2] 25)) (.cells #[.bool false, .slice none 0 0] 25)
    simpa using this
  have H1 := Lib.hid (show L1.length ≤ 1000000 by omega); have H2 := Lib.hid (show L2.length ≤ 1000000 by omega)
  have K1 := Lib.hid h1; have K2 := Lib.hid h2
  clear hS1 hS2 h1 h2
  have HS1 := Lib.hid hS1'; have HS2 := Lib.hid hS2'; have Hb0 := Lib.hid hb0
  clear hS1' hS2' hb0
  go_enter Try.func11, Try.ntmps11
  go_upto_region 1 with fail
  generalize (((w.alloc (.cells #[.bool c1, .slice p1 L1.length cap1] 25)).alloc (.cells #[.bool c2, .slice p2 L2.length cap2] 25)).alloc (.cells #[.bool false, .slice none 0 0] 25)) = wb at *
  have Hr0 := Lib.hid hr0; have Hr1 := Lib.hid hr1
  have Hr2 := Lib.hid hr2
  have Hlt0 := Lib.hid (show w.heap.size < wb.heap.size by omega)
  have Hlt1 := Lib.hid (show w.heap.size + 1 < wb.heap.size by omega)
  have Hlt2 := Lib.hid (show w.heap.size + 3 ≤ wb.heap.size by omega)
  clear hr0 hr1 hr2 hs0
  have z0 := Lib.hid (show wb.drew.cell? ⟨w.heap.size, 0, none⟩ = some (.bool c1) from cell_of_row _ _ _ _ _ _ Hr0.out)
  have z1 := Lib.hid (show wb.drew.cell? ⟨w.heap.size + 1, 0, none⟩ = some (.bool c2) from cell_of_row _ _ _ _ _ _ Hr1.out)
  have hca := complement_any c1 p1 cap1 L1 H1.out wb.drew HS1.out.drew
  have N1 := Lib.hid (show (nrm L1).length ≤ 50000 from Nat.le_trans (nrm_len L1) K1.out)
  have N2 := Lib.hid (show (nrm L2).length ≤ 50000 from Nat.le_trans (nrm_len L2) K2.out)
  have HM := Lib.hid (show (nrm (interL (!c1) (nrm L1) (!c2) (nrm L2))).length ≤ 1000000 from Nat.le_trans (nrm_len _) (Nat.le_trans (interL_len _ _ _ _) (by rw [(show (nrm (nrm L1)).length = (nrm L1).length by rw [nrm_nrm]), (show (nrm (nrm L2)).length = (nrm L2).length by rw [nrm_nrm])]; have := N1.out; have := N2.out; omega)))
  have hcb : ∀ (q1 : Option Addr) (k1 : Nat) (q2 : Option Addr) (k2 : Nat) (w : World), SL w q1 (nrm L1) → SL w q2 (nrm L2) → Calls Try.prog 13 #[.agg #[.bool (!c1), .slice q1 (nrm L1).length k1], .agg #[.bool (!c2), .slice q2 (nrm L2).length k2]] w (NA w (and (!c1) (!c2)) (nrm (interL (!c1) (nrm L1) (!c2) (nrm L2)))) := fun q1 k1 q2 k2 w h1 h2 => intersect_any (!c1) q1 k1 (nrm L1) (Nat.le_trans N1.out (by decide)) (!c2) q2 k2 (nrm L2) (Nat.le_trans N2.out (by decide)) w h1 h2
  generalize nrm (interL (!c1) (nrm L1) (!c2) (nrm L2)) = M at *
  generalize and (!c1) (!c2) = cm at *
  generalize nrm L1 = X at *
  have hcb2 : ∀ w : World, SL w p2 L2 → Calls Try.prog 10 #[.agg #[.bool c2, .slice p2 L2.length cap2]] w (NA w (!c2) (nrm L2)) := fun w h => complement_any c2 p2 cap2 L2 H2.out w h
  generalize nrm L2 = Y at *
  go_wp2_with (first
    | ((with_reducible refine Lex.at_finK ?_); refine LexK.finE_on (by kernel_rfl) (by repeat first | exact LexK.finL_nil | refine LexK.finL_none rfl ?_ | refine LexK.finL_skip (by decide +kernel) ?_ | refine LexK.finL_take rfl Hlt0.out z0.out ?_ | refine LexK.finL_take rfl Hlt1.out z1.out ?_) ?_)
    | ((with_reducible refine Lex.at_region ?_); refine LexK.wp_region_lexE (fun b => b < wb.heap.size) (by kernel_rfl) (by decide +kernel) ?_)
    | ((with_reducible refine Lex.at_wpX ?_); with_reducible refine LexK.wpX_plain (by decide +kernel) ?_)
    | ((with_reducible refine Lex.at_wpX ?_); with_reducible refine LexK.wpX_call ?_)
    | ((with_reducible refine Lex.at_wpX ?_); with_reducible refine LexK.wpX_nil ?_)
    | ((with_reducible refine Lex.at_ext ?_); first
        | with_reducible refine LexK.ext_on hex4.out ?_
        | with_reducible refine LexK.ext_on hex3.out ?_
        | with_reducible refine LexK.ext_on hex2.out ?_
        | with_reducible refine LexK.ext_on hex1.out ?_)
    | ((with_reducible refine at_load ?_); first
        | refine wpList_load_row rfl 25 (.tmp 2) rfl _ rfl _ _ (0, 0) _ (show wb.drew.heap[w.heap.size]? = _ from Hr0.out) rfl rfl (by kernel_rfl) ?_
        | refine wpList_load_row rfl 25 (.tmp 3) rfl _ rfl _ _ (0, 0) _ Hr8.out rfl rfl (by kernel_rfl) ?_)
    | (go_at_call 13; refine (hcb _ _ _ _ _ Hq1.out Hq2.out).mono ?_; rintro e w3 ⟨pp3, cap3, rfl, hs3, _, hb3⟩; have Hq3 := Lib.hid hs3; have Hb3 := Lib.hid (Hb2.out.trans (hb3.mono Hb2.out.size)); have hex3 := Lib.hid (show LexK.Ext (fun b => b < wb.heap.size) w2 w3 from ext_lt (hb3.mono Hb2.out.size)); clear hs3 hb3)
    | (go_at_call 10; first
        | (refine (complement_any _ _ _ _ HM.out _ Hq3.out).mono ?_; rintro e w4 ⟨pp4, cap4, rfl, hs4, hlo4, hb4⟩; have Hq4 := Lib.hid hs4; have Hlo4 := Lib.hid hlo4; have Hl3 := Lib.hid Hb3.out.size; have Hb4 := Lib.hid (Hb3.out.trans (hb4.mono Hb3.out.size)); have hex4 := Lib.hid (show LexK.Ext (fun b => b < wb.heap.size) w3 w4 from ext_lt (hb4.mono Hb3.out.size)); have Hr4 := Lib.hid (row_keep Hb4.out Hlt2.out Hr2.out); clear hs4 hlo4 hb4)
        | (refine (hcb2 _ Hs2.out).mono ?_; rintro e w2 ⟨pp2, cap22, rfl, hs2, _, hb2⟩; have Hq2 := Lib.hid hs2; have Hq1 := Lib.hid (Hs1.out.below hb2); have Hb2 := Lib.hid (Hb1.out.trans (hb2.mono Hb1.out.size)); have hex2 := Lib.hid (show LexK.Ext (fun b => b < wb.heap.size) w1 w2 from ext_lt (hb2.mono Hb1.out.size)); clear hs2 hb2)
        | (refine hca.mono ?_; rintro e w1 ⟨pp1, cap11, rfl, hs1, _, hb1⟩; have Hs1 := Lib.hid hs1; have Hb1 := Lib.hid (drew_trans hb1); have hex1 := Lib.hid (show LexK.Ext (fun b => b < wb.heap.size) wb.drew w1 from ext_lt hb1); have Hr8 := Lib.hid (row_keep Hb1.out Hlt1.out Hr1.out); have Hs2 := Lib.hid (HS2.out.below Hb1.out); clear hs1 hb1))
    | ((with_reducible refine at_store ?_); refine wpList_store_row rfl 25 (.tmp 4) (.tmp 10) rfl _ _ rfl rfl _ _ Hr4.out (by kernel_rfl) (by kernel_rfl) (by kernel_rfl) ?_))
  exact bodyPost_ret (results_cell_row rfl _ _ (w.heap.size + 2) 25 _ (0, 0) _ rfl (setRow_heap _ _ _ _ _ _ Hr4.out) rfl rfl (by kernel_rfl)) rfl
    ⟨pp4, cap4, rfl, Hq4.out.setRow (fun a h1 h2 => by have := Hlo4.out a h1 h2; have := Hl3.out; have := Hlt2.out; omega) _, fun a h1 h2 => by have := Hlo4.out a h1 h2; have := Hl3.out; have := Hlt2.out; omega, below_setRow (Hb0.out.trans (Hb4.out.mono Hb0.out.size)) (by omega) _⟩
set_option maxRecDepth 100000 in
set_option maxHeartbeats 32000000 in
theorem issubset_any (c1 : Bool) (p1 : Option Addr) (cap1 : Nat) (L1 : List Nm) (h1 : L1.length ≤ 50000) (c2 : Bool) (p2 : Option Addr) (cap2 : Nat) (L2 : List Nm) (h2 : L2.length ≤ 50000) (w : World) (hS1 : SL w p1 L1) (hS2 : SL w p2 L2) :
    Calls Try.prog 19 #[.agg #[.bool c1, .slice p1 L1.length cap1], .agg #[.bool c2, .slice p2 L2.length cap2]] w (fun e w' => e = .returned (.bool (!(c1 && !c2) && decide ((nrm (interL c1 L1 (!c2) (nrm L2))).length = 0))) ∧ Below w.heap.size w w') := by
  have hb0 : Below w.heap.size w ((w.alloc (.cells #[.bool c1, .slice p1 L1.length cap1] 25)).alloc (.cells #[.bool c2, .slice p2 L2.length cap2] 25)) := below_alloc ((Below.refl _ _).alloc (Nat.le_refl _) _) _
  have hS1' := hS1.below hb0
  have hS2' := hS2.below hb0
  have hs0 : ((w.alloc (.cells #[.bool c1, .slice p1 L1.length cap1] 25)).alloc (.cells #[.bool c2, .slice p2 L2.length cap2] 25)).heap.size = w.heap.size + 2 := by simp
  have hr0 : ((w.alloc (.cells #[.bool c1, .slice p1 L1.length cap1] 25)).alloc (.cells #[.bool c2, .slice p2 L2.length cap2] 25)).heap[w.heap.size]? = some (.cells #[.bool c1, .slice p1 L1.length cap1] 25) := two_row0 w _ _
  have hr1 : ((w.alloc (.cells #[.bool c1, .slice p1 L1.length cap1] 25)).alloc (.cells #[.bool c2, .slice p2 L2.length cap2] 25)).heap[w.heap.size + 1]? = some (.cells #[.bool c2, .slice p2 L2.length cap2] 25) := two_row1 w _ _
  have H1 := Lib.hid (show L1.length ≤ 1000000 by omega); have H2 := Lib.hid (show L2.length ≤ 1000000 by omega)
  have K1 := Lib.hid h1; have K2 := Lib.hid h2
  clear hS1 hS2 h1 h2
  have HS1 := Lib.hid hS1'; have HS2 := Lib.hid hS2'; have Hb0 := Lib.hid hb0
  clear hS1' hS2' hb0
  obtain ⟨R, hR⟩ : ∃ R, R = (!(c1 && !c2) && decide ((nrm (interL c1 L1 (!c2) (nrm L2))).length = 0)) := ⟨_, rfl⟩
  rw [← hR]
  have HR := Lib.hid hR; clear hR
  go_enter Try.func19, Try.ntmps19
  go_upto_region 1 with fail
  generalize ((w.alloc (.cells #[.bool c1, .slice p1 L1.length cap1] 25)).alloc (.cells #[.bool c2, .slice p2 L2.length cap2] 25)) = wb at *
  have Hr0 := Lib.hid hr0; have Hr1 := Lib.hid hr1
  skip
  have Hlt0 := Lib.hid (show w.heap.size < wb.heap.size by omega)
  have Hlt1 := Lib.hid (show w.heap.size + 1 < wb.heap.size by omega)
  have Hlt2 := Lib.hid (show w.heap.size + 2 ≤ wb.heap.size by omega)
  clear hr0 hr1 hs0
  obtain ⟨J, hJd⟩ : ∃ J : (Nat → Prop) → Act → World → Prop, J = fun D a w' => ∃ (f : Nat → Nat) (s6 s7 s8 s9 s5 : Value), a = ⟨((.agg #[.bool c1, .slice p1 L1.length cap1]) :: (.agg #[.bool c2, .slice p2 L2.length cap2]) :: (.pointer (some ⟨w.heap.size, 0, none⟩)) :: (.pointer (some ⟨w.heap.size + 1, 0, none⟩)) :: (.bool false) :: s5 :: s6 :: s7 :: s8 :: s9 :: undef :: undef :: undef :: undef :: undef :: undef :: undef :: undef :: undef :: []).toArray, []⟩ ∧ Below wb.heap.size wb w' ∧ (D 0 → s6 = (.agg #[.bool c1, .slice p1 L1.length cap1])) ∧ (D 1 → s7 = (.agg #[.bool c2, .slice p2 L2.length cap2])) ∧ (D 2 → NR f 2 w' (!c2) (nrm L2) s8) ∧ (D 3 → NR f 3 w' (c1 && !c2) (nrm (interL c1 L1 (!c2) (nrm L2))) s9) ∧ (D 4 → CR f wb.heap.size 4 25 w' s5 fun cs => D 5 → s9 = .agg cs) ∧ (D 5 → D 4) ∧ (D 5 → D 3) := ⟨_, rfl⟩
  have HJ := Lib.hid hJd; clear hJd
  refine Inv.wp_region_inv J (by kernel_rfl) (by decide +kernel) ?_ ?_ ?_
  · rw [HJ.out]
    exact ⟨fun _ => 0, _, _, _, _, _, rfl, (Below.refl _ _).drew, fun h => h.elim, fun h => h.elim, fun h => h.elim, fun h => h.elim, fun h => h.elim, fun h => h.elim, fun h => h.elim⟩
  · intro i o hi D a w' hD hA hJ
    rw [HJ.out] at hJ
    obtain ⟨f, s6, s7, s8, s9, s5, rfl, hb, h0, h1, h2, h3, h4, g5_4, g5_3⟩ := hJ
    match i, hi, hA with
    | 0, hi, hA =>
      obtain rfl := Option.some.inj hi
      clear hi
      clear hA
      have hrow := row_keep hb Hlt0.out Hr0.out
      clear hD
      have H0 := Lib.hid h0; have H1 := Lib.hid h1; have H2 := Lib.hid h2; have H3 := Lib.hid h3; have H4 := Lib.hid h4; have Hb := Lib.hid hb; clear hb h0 h1 h2 h3 h4
      go_wp2_with ((with_reducible refine at_load ?_); refine wpList_load_row rfl 25 (.tmp 2) rfl _ rfl _ _ (0, 0) _ hrow rfl rfl (by kernel_rfl) ?_)
      rw [HJ.out]
      exact ⟨f, _, _, _, _, _, rfl, Hb.out, fun _ => rfl, fun h => H1.out (h.resolve_right (by decide)), fun h => H2.out (h.resolve_right (by decide)), fun h => H3.out (h.resolve_right (by decide)), fun h => (H4.out (h.resolve_right (by decide))).mono fun cs hc h' => hc (h'.resolve_right (by decide)), fun h => .inl (g5_4 (h.resolve_right (by decide))), fun h => .inl (g5_3 (h.resolve_right (by decide)))⟩
    | 1, hi, hA =>
      obtain rfl := Option.some.inj hi
      clear hi
      clear hA
      have hrow := row_keep hb Hlt1.out Hr1.out
      clear hD
      have H0 := Lib.hid h0; have H1 := Lib.hid h1; have H2 := Lib.hid h2; have H3 := Lib.hid h3; have H4 := Lib.hid h4; have Hb := Lib.hid hb; clear hb h0 h1 h2 h3 h4
      go_wp2_with ((with_reducible refine at_load ?_); refine wpList_load_row rfl 25 (.tmp 3) rfl _ rfl _ _ (0, 0) _ hrow rfl rfl (by kernel_rfl) ?_)
      rw [HJ.out]
      exact ⟨f, _, _, _, _, _, rfl, Hb.out, fun h => H0.out (h.resolve_right (by decide)), fun _ => rfl, fun h => H2.out (h.resolve_right (by decide)), fun h => H3.out (h.resolve_right (by decide)), fun h => (H4.out (h.resolve_right (by decide))).mono fun cs hc h' => hc (h'.resolve_right (by decide)), fun h => .inl (g5_4 (h.resolve_right (by decide))), fun h => .inl (g5_3 (h.resolve_right (by decide)))⟩
    | 2, hi, hA =>
      obtain rfl := Option.some.inj hi
      clear hi
      have d1 := after_of hA 1 (by decide +kernel)
      clear hA
      obtain rfl := h1 d1
      have hcall := complement_any c2 p2 cap2 L2 H2.out w' (HS2.out.below hb)
      have H0 := Lib.hid h0; have H1 := Lib.hid h1; have H2 := Lib.hid h2; have H3 := Lib.hid h3; have H4 := Lib.hid h4; have Hb := Lib.hid hb; have HD := Lib.hid hD; clear hb hD h0 h1 h2 h3 h4
      have hsz := Lib.hid Hb.out.size
      go_wp2_with (go_at_call 10; refine hcall.mono ?_; rintro e w2 hna; obtain ⟨pq, capq, rfl, hq2, hq3, hq4⟩ := hna; have Hna := Lib.hid (show NA w' (!c2) (nrm L2) (.returned (.agg #[.bool (!c2), .slice pq (nrm L2).length capq])) w2 from ⟨pq, capq, rfl, hq2, hq3, hq4⟩); have Hq4 := Lib.hid hq4; clear hq2 hq3 hq4)
      rw [HJ.out]
      exact ⟨fu f w'.heap.size 2, _, _, _, _, _, rfl, Hb.out.trans (Hq4.out.mono hsz.out), fun h => H0.out (h.resolve_right (by decide)), fun _ => rfl, fun _ => NR.new Hna.out, fun h => (H3.out (h.resolve_right (by decide))).grow Hq4.out, fun h => ((H4.out (h.resolve_right (by decide))).grow Hq4.out).mono fun cs hc h' => hc (h'.resolve_right (by decide)), fun h => .inl (g5_4 (h.resolve_right (by decide))), fun h => .inl (g5_3 (h.resolve_right (by decide)))⟩
    | 3, hi, hA =>
      obtain rfl := Option.some.inj hi
      clear hi
      have d0 := after_of hA 0 (by decide +kernel)
      have d2 := after_of hA 2 (by decide +kernel)
      clear hA
      obtain rfl := h0 d0
      obtain ⟨pa, ka, rfl, ha2, _⟩ := h2 d2
      have hcall := intersect_any c1 p1 cap1 L1 (Nat.le_trans K1.out (by decide)) (!c2) pa ka (nrm L2) (Nat.le_trans (nrm_len L2) (Nat.le_trans K2.out (by decide))) w' (HS1.out.below hb) ha2
      have H0 := Lib.hid h0; have H1 := Lib.hid h1; have H2 := Lib.hid h2; have H3 := Lib.hid h3; have H4 := Lib.hid h4; have Hb := Lib.hid hb; have HD := Lib.hid hD; clear hb hD h0 h1 h2 h3 h4
      have hsz := Lib.hid Hb.out.size
      go_wp2_with (go_at_call 13; refine hcall.mono ?_; rintro e w2 hna; obtain ⟨pq, capq, rfl, hq2, hq3, hq4⟩ := hna; have Hna := Lib.hid (show NA w' (c1 && !c2) (nrm (interL c1 L1 (!c2) (nrm L2))) (.returned (.agg #[.bool (c1 && !c2), .slice pq (nrm (interL c1 L1 (!c2) (nrm L2))).length capq])) w2 from ⟨pq, capq, rfl, hq2, hq3, hq4⟩); have Hq4 := Lib.hid hq4; clear hq2 hq3 hq4)
      rw [HJ.out]
      exact ⟨fu f w'.heap.size 3, _, _, _, _, _, rfl, Hb.out.trans (Hq4.out.mono hsz.out), fun _ => rfl, fun h => H1.out (h.resolve_right (by decide)), fun h => (H2.out (h.resolve_right (by decide))).grow Hq4.out, fun _ => NR.new Hna.out, fun h => ((H4.out (h.resolve_right (by decide))).grow Hq4.out).mono fun cs hc h' => (HD.out (g5_3 (h'.resolve_right (by decide)))).elim, fun h => .inl (g5_4 (h.resolve_right (by decide))), fun _ => .inr rfl⟩
    | 4, hi, hA =>
      obtain rfl := Option.some.inj hi
      clear hi
      clear hA
      have hst : ¬ D 5 := fun h => hD (g5_4 h)
      have H0 := Lib.hid h0; have H1 := Lib.hid h1; have H2 := Lib.hid h2; have H3 := Lib.hid h3; have H4 := Lib.hid h4; have Hb := Lib.hid hb; have Hst := Lib.hid hst; clear hb hD hst h0 h1 h2 h3 h4
      go_wp2
      have hal : ∀ ob, Below w'.heap.size w' (w'.alloc ob) := fun ob => (Below.refl _ _).alloc (Nat.le_refl _) ob
      rw [HJ.out]
      exact ⟨fu f w'.heap.size 4, _, _, _, _, _, rfl, Hb.out.trans ((hal _).mono Hb.out.size), fun h => H0.out (h.resolve_right (by decide)), fun h => H1.out (h.resolve_right (by decide)), fun h => (H2.out (h.resolve_right (by decide))).grow (hal _), fun h => (H3.out (h.resolve_right (by decide))).grow (hal _), fun _ => CR.new _ _ Hb.out.size fun h => (Hst.out (h.resolve_right (by decide))).elim, fun _ => .inr rfl, fun h => .inl (g5_3 (h.resolve_right (by decide)))⟩
    | 5, hi, hA =>
      obtain rfl := Option.some.inj hi
      clear hi
      have d3 := after_of hA 3 (by decide +kernel)
      have d4 := after_of hA 4 (by decide +kernel)
      clear hA
      obtain ⟨g, x, y, rfl, hg1, hg2, hg3, hg4⟩ := h4 d4
      obtain ⟨pq, capq, rfl, hq2, hq3⟩ := h3 d3
      have hv : NR f 3 w' (c1 && !c2) (nrm (interL c1 L1 (!c2) (nrm L2))) (.agg #[.bool (c1 && !c2), .slice pq (nrm (interL c1 L1 (!c2) (nrm L2))).length capq]) := ⟨pq, capq, rfl, hq2, hq3⟩
      have H0 := Lib.hid h0; have H1 := Lib.hid h1; have H2 := Lib.hid h2; have H3 := Lib.hid h3; have Hb := Lib.hid hb; have Hv := Lib.hid hv; have Hg1 := Lib.hid hg1; have Hg2 := Lib.hid hg2; have Hg3 := Lib.hid hg3; clear hb hD hv hg1 hg2 hg3 hg4 hq2 hq3 h0 h1 h2 h3 h4
      go_wp2_with ((with_reducible refine at_store ?_); refine wpList_store_row rfl 25 (.tmp 5) (.tmp 9) rfl _ _ rfl rfl _ _ Hg3.out (by kernel_rfl) (by kernel_rfl) (by kernel_rfl) ?_)
      rw [HJ.out]
      exact ⟨f, _, _, _, _, _, rfl, below_setRow Hb.out Hg1.out _, fun h => H0.out (h.resolve_right (by decide)), fun h => H1.out (h.resolve_right (by decide)), fun h => (H2.out (h.resolve_right (by decide))).store (by rw [Hg2.out]; decide) _, fun _ => Hv.out.store (by rw [Hg2.out]; decide) _, fun _ => ⟨g, _, _, rfl, Hg1.out, Hg2.out, setRow_heap _ _ _ _ _ _ Hg3.out, fun _ => rfl⟩, fun _ => .inl d4, fun _ => .inl d3⟩
    | n + 6, hi, hA => cases hi
  · intro D a w' hall hJ
    rw [HJ.out] at hJ
    obtain ⟨f, s6, s7, s8, s9, s5, rfl, hb, h0, h1, h2, h3, h4, g5_4, g5_3⟩ := hJ
    have hd : ∀ i, i < 6 → D i := hall
    clear hall
    obtain ⟨g1, xa, ya, rfl, hg1, hf1, hr3, hc1⟩ := h4 (hd 4 (by decide))
    obtain ⟨q1, k1, rfl, hs1, hz1⟩ := h3 (hd 3 (by decide))
    have e1 := hc1 (hd 5 (by decide))
    simp only [Value.agg.injEq, Array.mk.injEq, List.cons.injEq, and_true] at e1
    obtain ⟨rfl, rfl⟩ := e1
    clear h0 h1 h2 h3 h4 g5_4 g5_3 hd hc1 hf1 hz1
    have Hbw := Lib.hid (Hb0.out.trans (hb.mono Hb0.out.size))
    generalize w' = wm at *
    generalize hM : (nrm (interL c1 L1 (!c2) (nrm L2))) = M at *
    generalize hcc : (c1 && !c2) = cc at *
    have HM := Lib.hid hM; have Hcc := Lib.hid hcc
    clear hM hcc
    have x1 : wm.cell? ⟨g1, 0, none⟩ = some (.bool cc) := cell_of_row _ _ _ _ _ _ hr3
    have x2 : wm.cell? ⟨g1, 1, none⟩ = some (.slice q1 M.length k1) := cell_of_row _ _ _ _ _ _ hr3
    have hK : ∀ {K : Act → World → Prop} {Q : Exit → Act → World → Prop} {a : Act} {w : World}, K a w → Exit.then K Q .normal a w := fun h => h
    refine hK ?_
    clear hr3 hb hs1 hg1
    cases cc with
    | true =>
      go_wp2
      go_ret
      refine ⟨?_, Hbw.out⟩
      rw [HR.out]
      simp
    | false =>
      go_wp2
      go_ret
      refine ⟨?_, Hbw.out⟩
      rw [HR.out]
      cases M <;> simp <;> omega
end Go.Proofs.Ytejiagmfinhjbaa
