/-
  Walks: MakeNames, ComplementNames, UnionNames.
-/
import Derived.Test.YtejiagmfinhjbaaNs
namespace Go.Proofs.Ytejiagmfinhjbaa
open Go.RowKit Go.Ident Go.Names

set_option maxRecDepth 100000 in
set_option maxHeartbeats 8000000 in
theorem makeNames_any (c : Bool) (p : Option Addr) (cap : Nat) (L : List Nm) (hl : L.length ≤ 100000) (w : World) (hS : SL w p L) :
    Calls Try.prog 9 #[.bool c, .slice p L.length cap] w (NA w c (nrm L)) := by
  have hb0 : Below w.heap.size w (w.alloc (.cells #[.bool false, .slice none 0 0] 25)) := (Below.refl _ _).alloc (Nat.le_refl _) _
  have hc := sorted_any p cap L hl _ (hS.below hb0)
  have hr0 : (w.alloc (.cells #[.bool false, .slice none 0 0] 25)).heap[w.heap.size]? = some (.cells #[.bool false, .slice none 0 0] 25) := heap_alloc_new _ _
  have hs0 : (w.alloc (.cells #[.bool false, .slice none 0 0] 25)).heap.size = w.heap.size + 1 := by simp
  have Hb0 := Lib.hid hb0; clear hb0 hl hS
  go_enter Try.func9, Try.ntmps9
  go_upto_region 1 with fail
  generalize w.alloc (.cells #[.bool false, .slice none 0 0] 25) = wb at *
  have Hr0 := Lib.hid hr0
  have Hlt := Lib.hid (show w.heap.size < wb.heap.size by omega)
  clear hr0 hs0
  go_wp2_with (first
    | (go_at_call 28; refine hc.mono ?_; rintro e w1 ⟨v1, rfl, ho1, hb1⟩; obtain ⟨p1, cap1, rfl, _⟩ := ho1.cut; have Hs1 := Lib.hid ho1.sl; have Hlo1 := Lib.hid ho1.low; have Hb1 := Lib.hid hb1; have Hr1 := Lib.hid (row_keep hb1 Hlt.out Hr0.out); clear ho1 hb1)
    | ((with_reducible refine at_store ?_); refine wpList_store_row rfl 25 (.tmp 4) (.tmp 8) rfl _ _ rfl rfl _ _ Hr1.out (by kernel_rfl) (by kernel_rfl) (by kernel_rfl) ?_))
  exact bodyPost_ret (results_cell_row rfl _ _ w.heap.size 25 _ (0, 0) _ rfl (setRow_heap _ _ _ _ _ _ Hr1.out) rfl rfl (by kernel_rfl)) rfl
    ⟨p1, _, rfl, Hs1.out.setRow (fun a h1 h2 => by have := Hlo1.out a h1 h2; have := Hlt.out; omega) _, fun a h1 h2 => Nat.le_trans (Nat.le_of_lt Hlt.out) (Hlo1.out a h1 h2), below_setRow (Hb0.out.trans (Hb1.out.mono (Nat.le_of_lt Hlt.out))) (by omega) _⟩
set_option maxRecDepth 100000 in
set_option maxHeartbeats 8000000 in
theorem complNames_any (c : Bool) (p : Option Addr) (cap : Nat) (L : List Nm) (hl : L.length ≤ 100000) (w : World) (hS : SL w p L) :
    Calls Try.prog 41 #[.agg #[.bool c, .slice p L.length cap]] w (NA w (!c) (nrm L)) := by
  have hb0 : Below w.heap.size w ((w.alloc (.cells #[.bool c, .slice p L.length cap] 25)).alloc (.cells #[.bool false, .slice none 0 0] 25)) := below_alloc ((Below.refl _ _).alloc (Nat.le_refl _) _) _
  have hc := makeNames_any (!c) p cap L hl _ (hS.below hb0)
  have hr0 := two_row0 w (.cells #[.bool c, .slice p L.length cap] 25) (.cells #[.bool false, .slice none 0 0] 25)
  have hr1 := two_row1 w (.cells #[.bool c, .slice p L.length cap] 25) (.cells #[.bool false, .slice none 0 0] 25)
  have hs0 : ((w.alloc (.cells #[.bool c, .slice p L.length cap] 25)).alloc (.cells #[.bool false, .slice none 0 0] 25)).heap.size = w.heap.size + 2 := by simp
  have Hb0 := Lib.hid hb0; clear hb0 hl hS
  go_enter Try.func41, Try.ntmps41
  go_upto_region 1 with fail
  generalize (w.alloc (.cells #[.bool c, .slice p L.length cap] 25)).alloc (.cells #[.bool false, .slice none 0 0] 25) = wb at *
  have x0 : wb.cell? ⟨w.heap.size, 0, none⟩ = some (.bool c) := cell_of_row _ _ _ _ _ _ hr0
  have x1 : wb.cell? ⟨w.heap.size, 1, none⟩ = some (.slice p L.length cap) := cell_of_row _ _ _ _ _ _ hr0
  have Hr1 := Lib.hid hr1
  have Hlt := Lib.hid (show w.heap.size + 1 < wb.heap.size by omega)
  clear hr0 hr1 hs0
  go_wp2_with (first
    | (go_at_call 9; refine hc.mono ?_; rintro e w1 ⟨p1, cap1, rfl, hs1, hlo1, hb1⟩; have Hs1 := Lib.hid hs1; have Hlo1 := Lib.hid hlo1; have Hb1 := Lib.hid hb1; have Hq1 := Lib.hid (row_keep hb1 Hlt.out Hr1.out); clear hs1 hlo1 hb1)
    | ((with_reducible refine at_store ?_); refine wpList_store_row rfl 25 (.tmp 2) (.tmp 8) rfl _ _ rfl rfl _ _ Hq1.out (by kernel_rfl) (by kernel_rfl) (by kernel_rfl) ?_))
  exact bodyPost_ret (results_cell_row rfl _ _ (w.heap.size + 1) 25 _ (0, 0) _ rfl (setRow_heap _ _ _ _ _ _ Hq1.out) rfl rfl (by kernel_rfl)) rfl
    ⟨p1, _, rfl, Hs1.out.setRow (fun a h1 h2 => by have := Hlo1.out a h1 h2; have := Hlt.out; omega) _, fun a h1 h2 => by have := Hlo1.out a h1 h2; have := Hlt.out; omega, below_setRow (Hb0.out.trans (Hb1.out.mono (by have := Hlt.out; omega))) (by omega) _⟩
/-- The reference's union, as a list. -/
def fl (F1 F2 : Nm → Bool) (co : Bool) (l : List Nm) : List Nm := l.filter fun x => (F1 x || F2 x) != co
theorem fl_len (F1 F2 : Nm → Bool) (co : Bool) (l : List Nm) : (fl F1 F2 co l).length ≤ l.length := List.length_filter_le _ _
theorem fl_step (F1 F2 : Nm → Bool) (co : Bool) (l : List Nm) (k : Nat) (h : k < l.length) : fl F1 F2 co (l.take (k + 1)) = fl F1 F2 co (l.take k) ++ (if ((F1 l[k] || F2 l[k]) != co) = true then [l[k]] else []) := by
  unfold fl
  rw [List.take_succ_eq_append_getElem h, List.filter_append]
  congr 1
  cases hc : ((F1 l[k] || F2 l[k]) != co) <;> simp [hc]
def unionL (c1 : Bool) (l1 : List Nm) (c2 : Bool) (l2 : List Nm) : List Nm := fl (has c1 l1) (has c2 l2) (c1 || c2) (l1 ++ l2)
set_option maxRecDepth 100000 in
set_option maxHeartbeats 32000000 in
theorem unionNames_any (c1 : Bool) (p1 : Option Addr) (cap1 : Nat) (L1 : List Nm) (h1 : L1.length ≤ 50000) (c2 : Bool) (p2 : Option Addr) (cap2 : Nat) (L2 : List Nm) (h2 : L2.length ≤ 50000) (w : World) (hS1 : SL w p1 L1) (hS2 : SL w p2 L2) :
    Calls Try.prog 26 #[.agg #[.bool c1, .slice p1 L1.length cap1], .agg #[.bool c2, .slice p2 L2.length cap2]] w (NA w (c1 || c2) (nrm (unionL c1 L1 c2 L2))) := by
  have hb0 : Below w.heap.size w (((w.alloc (.cells #[.bool c1, .slice p1 L1.length cap1] 25)).alloc (.cells #[.bool c2, .slice p2 L2.length cap2] 25)).alloc (.cells #[.bool false, .slice none 0 0] 25)) := below_alloc (below_alloc ((Below.refl _ _).alloc (Nat.le_refl _) _) _) _
  have hS1' := hS1.below hb0
  have hS2' := hS2.below hb0
  have hs0 : (((w.alloc (.cells #[.bool c1, .slice p1 L1.length cap1] 25)).alloc (.cells #[.bool c2, .slice p2 L2.length cap2] 25)).alloc (.cells #[.bool false, .slice none 0 0] 25)).heap.size = w.heap.size + 3 := by simp
  have hr0 : (((w.alloc (.cells #[.bool c1, .slice p1 L1.length cap1] 25)).alloc (.cells #[.bool c2, .slice p2 L2.length cap2] 25)).alloc (.cells #[.bool false, .slice none 0 0] 25)).heap[w.heap.size]? = some (.cells #[.bool c1, .slice p1 L1.length cap1] 25) := (heap_alloc_old _ _ (by simp; omega)).trans (two_row0 w _ _)
  have hr1 : (((w.alloc (.cells #[.bool c1, .slice p1 L1.length cap1] 25)).alloc (.cells #[.bool c2, .slice p2 L2.length cap2] 25)).alloc (.cells #[.bool false, .slice none 0 0] 25)).heap[w.heap.size + 1]? = some (.cells #[.bool c2, .slice p2 L2.length cap2] 25) := (heap_alloc_old _ _ (by simp)).trans (two_row1 w _ _)
  have hr2 : (((w.alloc (.cells #[.bool c1, .slice p1 L1.length cap1] 25)).alloc (.cells #[.bool c2, .slice p2 L2.length cap2] 25)).alloc (.cells #[.bool false, .slice none 0 0] 25)).heap[w.heap.size + 2]? = some (.cells #[.bool false, .slice none 0 0] 25) := by
    have := heap_alloc_new ((w.alloc (.cells #[.bool c1, .slice p1 L1.length cap1] 25)).alloc (.cells #[.bool c2, .slice p2 L2.length cap2] 25)) (.cells #[.bool false, .slice none 0 0] 25)
    simpa using this
  have H1 := Lib.hid (show L1.length ≤ 1000000 by omega); have H2 := Lib.hid (show L2.length ≤ 1000000 by omega)
  have K1 := Lib.hid h1; have K2 := Lib.hid h2
  clear hS1 hS2 h1 h2
  have HS1 := Lib.hid hS1'; have HS2 := Lib.hid hS2'; have Hb0 := Lib.hid hb0
  clear hS1' hS2' hb0
  obtain ⟨F1, hF1⟩ : ∃ F : Nm → Bool, F = has c1 L1 := ⟨_, rfl⟩
  obtain ⟨F2, hF2⟩ : ∃ F : Nm → Bool, F = has c2 L2 := ⟨_, rfl⟩
  obtain ⟨CO, hCO⟩ : ∃ CO, CO = (c1 || c2) := ⟨_, rfl⟩
  have hU : unionL c1 L1 c2 L2 = fl F1 F2 CO (L1 ++ L2) := by rw [hF1, hF2, hCO]; rfl
  rw [hU]
  have hh1 : ∀ (x : Nm) (w : World), SL w p1 L1 → Calls Try.prog 18 #[.agg #[.bool c1, .slice p1 L1.length cap1], .string (toB x)] w fun e w' => e = .returned (.bool (F1 x)) ∧ Below w.heap.size w w' := fun x w h => by rw [hF1]; exact hasName_any c1 p1 cap1 L1 x H1.out w h
  have hh2 : ∀ (x : Nm) (w : World), SL w p2 L2 → Calls Try.prog 18 #[.agg #[.bool c2, .slice p2 L2.length cap2], .string (toB x)] w fun e w' => e = .returned (.bool (F2 x)) ∧ Below w.heap.size w w' := fun x w h => by rw [hF2]; exact hasName_any c2 p2 cap2 L2 x H2.out w h
  have HAl := Lib.hid (show (L1 ++ L2).length ≤ 100000 by rw [List.length_append]; have := K1.out; have := K2.out; omega)
  obtain ⟨A, hA⟩ : ∃ A, A = L1 ++ L2 := ⟨_, rfl⟩
  rw [← hA] at HAl ⊢
  have HAe := Lib.hid hA; clear hA
  clear hF1 hF2 hU
  go_enter Try.func26, Try.ntmps26
  go_upto_region 1 with fail
  generalize (((w.alloc (.cells #[.bool c1, .slice p1 L1.length cap1] 25)).alloc (.cells #[.bool c2, .slice p2 L2.length cap2] 25)).alloc (.cells #[.bool false, .slice none 0 0] 25)) = wb at *
  have Hr0 := Lib.hid hr0; have Hr1 := Lib.hid hr1
  have Hr2 := Lib.hid hr2
  have Hlt0 := Lib.hid (show w.heap.size < wb.heap.size by omega)
  have Hlt1 := Lib.hid (show w.heap.size + 1 < wb.heap.size by omega)
  have Hlt2 := Lib.hid (show w.heap.size + 3 ≤ wb.heap.size by omega)
  clear hr0 hr1 hr2 hs0
  have x1 : wb.cell? ⟨w.heap.size, 1, none⟩ = some (.slice p1 L1.length cap1) := cell_of_row _ _ _ _ _ _ Hr0.out
  have x2 : wb.cell? ⟨w.heap.size + 1, 1, none⟩ = some (.slice p2 L2.length cap2) := cell_of_row _ _ _ _ _ _ Hr1.out
  have Hx2 := Lib.hid x2
  go_upto_region 3 with (first
    | ((with_reducible refine Lex.at_finK ?_); refine LexK.finE_on (by kernel_rfl) (by repeat first | exact LexK.finL_nil | refine LexK.finL_none rfl ?_ | refine LexK.finL_skip (by decide +kernel) ?_ | refine LexK.finL_take rfl Hlt1.out z2.out ?_) ?_)
    | ((with_reducible refine Lex.at_region ?_); refine LexK.wp_region_lexE (fun b => b < wb.heap.size) (by kernel_rfl) (by decide +kernel) ?_; have y1 : wb.drew.cell? ⟨w.heap.size, 1, none⟩ = some (.slice p1 L1.length cap1) := x1; have z2 := Lib.hid (show wb.drew.cell? ⟨w.heap.size + 1, 1, none⟩ = some (.slice p2 L2.length cap2) from Hx2.out))
    | ((with_reducible refine Lex.at_wpX ?_); with_reducible refine LexK.wpX_plain (by decide +kernel) ?_)
    | ((with_reducible refine Lex.at_wpX ?_); with_reducible refine LexK.wpX_call ?_)
    | ((with_reducible refine Lex.at_wpX ?_); with_reducible refine LexK.wpX_nil ?_)
    | ((with_reducible refine Lex.at_ext ?_); first
        | with_reducible refine LexK.ext_on hex2.out ?_
        | with_reducible refine LexK.ext_on hex1.out ?_)
    | (at_builtin; first
        | (refine wpList_append_names rfl (.const (.slice none 0 0)) (.tmp 10) rfl wb.heap.size wb.drew (Nat.le_refl _) (.slice none 0 0) [] L1 rfl (OS.nil _ _) (by decide) p1 _ HS1.out.drew H1.out rfl ?_; intro v1 w1 ho1 hb1; have Ho1 := Lib.hid (show OS wb.heap.size w1 v1 L1 from ho1); have Hb1 := Lib.hid (hb1 wb (Below.refl _ wb).drew); have hex1 := Lib.hid (show LexK.Ext (fun b => b < wb.heap.size) wb.drew w1 from ext_lt (hb1 _ (Below.refl _ _))); have z3 := cell_keep Hb1.out Hlt1.out Hx2.out; have Hs2 := Lib.hid (HS2.out.below Hb1.out); clear ho1 hb1)
        | (refine wpList_append_names rfl (.tmp 11) (.tmp 13) rfl wb.heap.size w1 Hb1.out.size _ L1 L2 rfl Ho1.out H1.out p2 _ Hs2.out H2.out rfl ?_; intro v2 w2 ho2 hb2; have Ho2 := Lib.hid (show OS wb.heap.size w2 v2 A from HAe.out ▸ ho2); have Hb2 := Lib.hid (hb2 _ Hb1.out); have hex2 := Lib.hid (show LexK.Ext (fun b => b < wb.heap.size) w1 w2 from ext_lt (hb2 _ (Below.refl _ _))); clear ho2 hb2)))
  obtain ⟨q, capq, rfl, _⟩ := Ho2.out.cut
  have HSA := Lib.hid Ho2.out.sl
  have HA2 := Lib.hid HAl.out
  have y0 := cell_keep Hb2.out Hlt0.out (cell_of_row _ _ 0 _ _ _ Hr0.out)
  have y1 := cell_keep Hb2.out Hlt1.out (cell_of_row _ _ 0 _ _ _ Hr1.out)
  have Hb2' := Lib.hid (Hb0.out.trans (Hb2.out.mono Hb0.out.size))
  have G1 := Lib.hid hh1; have G2 := Lib.hid hh2
  clear hh1 hh2 x1 x2 HAl
  cases c1 with
  | true =>
    cases c2 with
    | true =>
      simp only [Bool.or_self, Bool.or_true, Bool.true_or, Bool.or_false, Bool.false_or] at hCO
      subst hCO
      have hal := HA2.out
      go_wp2
      go_loopw [5, 8] (fun v i wr => ∃ k : Nat, k ≤ A.length ∧ i = .int .i64 k ∧ OI w2 w2.heap.size v (fl F1 F2 true (A.take k)) wr) (fun _ i _ => A.length - (intOf i).toNat)
      case atStart => exact ⟨0, by omega, rfl, OS.nil _ _, Below.refl _ _⟩
      case round =>
        obtain ⟨k, hk, rfl, hoi⟩ := hrel
        have Hoi := Lib.hid hoi; clear hoi
        by_cases hlt : k < A.length
        · obtain ⟨a, o, rfl, ha, c0'⟩ := HSA.out.cell k hlt
          have Hq2 := Lib.hid ha; have Hc0 := Lib.hid c0'
          have c0 := cell_keep Hoi.out.below ha c0'
          have hg1 := G1.out A[k] wr.drew ((HS1.out.below (Hb2.out.trans (Hoi.out.below.mono Hb2.out.size))).drew)
          have HSt2 := Lib.hid ((HS2.out.below (Hb2.out.trans (Hoi.out.below.mono Hb2.out.size))).drew)
          have Hfl := Lib.hid (fl_step F1 F2 true A k hlt)
          have Hsz := Lib.hid (HSA.out.size A[k] (List.getElem_mem hlt))
          have Hln := Lib.hid (show (fl F1 F2 true (A.take k)).length ≤ 1000000 from Nat.le_trans (fl_len _ _ _ _) (by simp; omega))
          have Hl11 := Lib.hid (show wb.heap.size ≤ wr.drew.heap.size from Nat.le_trans Hb2.out.size Hoi.out.below.size)
          have Hr11 := Lib.hid (show wr.drew.heap[w.heap.size]? = _ from row_keep (Hb2.out.trans (Hoi.out.below.mono Hb2.out.size)).drew Hlt0.out Hr0.out)
          have Hr12 := Lib.hid (row_keep Hb2.out Hlt1.out Hr1.out)
          have Hl12 := Lib.hid (show w.heap.size + 1 < w2.heap.size from Nat.lt_of_lt_of_le Hlt1.out Hb2.out.size)
          generalize A[k] = x at *
          clear ha c0'
          have hR2 : F2 x = F2 x := rfl
          cases hF1 : F1 x with
          | true =>
            cases hF2 : F2 x with
            | true =>
              have HF1 := Lib.hid hF1; have HF2 := Lib.hid hF2
              rw [hF1] at hg1
              clear hF1 hF2 hR2
              go_wp2_with (first
                | ((with_reducible refine Lex.at_finK ?_); refine LexK.finE_on (by kernel_rfl) (by repeat first | exact LexK.finL_nil | refine LexK.finL_none rfl ?_ | refine LexK.finL_skip (by decide +kernel) ?_) ?_)
                | ((with_reducible refine Lex.at_region ?_); refine LexK.wp_region_lexE (fun b => b < wb.heap.size) (by kernel_rfl) (by decide +kernel) ?_)
                | ((with_reducible refine Lex.at_wpX ?_); with_reducible refine LexK.wpX_plain (by decide +kernel) ?_)
                | ((with_reducible refine Lex.at_wpX ?_); with_reducible refine LexK.wpX_call ?_)
                | ((with_reducible refine Lex.at_wpX ?_); with_reducible refine LexK.wpX_nil ?_)
                | ((with_reducible refine Lex.at_ext ?_); first
                    | with_reducible refine LexK.ext_on hex4.out ?_
                    | with_reducible refine LexK.ext_on hex3.out ?_
                    | refine LexK.ext_on (LexK.Ext.refl _) ?_)
                | ((with_reducible refine at_load ?_); first
                    | refine wpList_load_row rfl 25 (.tmp 2) rfl _ rfl _ _ (0, 0) _ Hr11.out rfl rfl (by kernel_rfl) ?_
                    | refine wpList_load_row rfl 25 (.tmp 3) rfl _ rfl _ _ (0, 0) _ r13 rfl rfl (by kernel_rfl) ?_)
                | (go_at_call 18; first
                    | (refine hg1.mono ?_; rintro e w3 ⟨rfl, hb3⟩; have Hl3 := Lib.hid (Nat.le_trans Hl11.out (show wr.drew.heap.size ≤ w3.heap.size from hb3.size)); have hex3 := Lib.hid (show LexK.Ext (fun b => b < wb.heap.size) wr.drew w3 from ext_lt (hb3.mono Hl11.out)); have HO3 := Lib.hid ((OS.drew Hoi.out.own).below hb3); have HB3 := Lib.hid (Hoi.out.below.drew.trans (hb3.mono Hoi.out.below.size)); have HOf := HO3; have HBf := HB3; have z7 := cell_keep HB3.out Hq2.out Hc0.out; clear hb3)))
              refine ⟨⟨k + 1, by omega, by go_num, ?_⟩, by simp [intOf]; omega⟩
              rw [Hfl.out, HF1.out, HF2.out]
              exact ⟨by simpa using HOf.out, HBf.out⟩
            | false =>
              have HF1 := Lib.hid hF1; have HF2 := Lib.hid hF2
              rw [hF1] at hg1
              clear hF1 hF2 hR2
              go_wp2_with (first
                | ((with_reducible refine Lex.at_finK ?_); refine LexK.finE_on (by kernel_rfl) (by repeat first | exact LexK.finL_nil | refine LexK.finL_none rfl ?_ | refine LexK.finL_skip (by decide +kernel) ?_) ?_)
                | ((with_reducible refine Lex.at_region ?_); refine LexK.wp_region_lexE (fun b => b < wb.heap.size) (by kernel_rfl) (by decide +kernel) ?_)
                | ((with_reducible refine Lex.at_wpX ?_); with_reducible refine LexK.wpX_plain (by decide +kernel) ?_)
                | ((with_reducible refine Lex.at_wpX ?_); with_reducible refine LexK.wpX_call ?_)
                | ((with_reducible refine Lex.at_wpX ?_); with_reducible refine LexK.wpX_nil ?_)
                | ((with_reducible refine Lex.at_ext ?_); first
                    | with_reducible refine LexK.ext_on hex4.out ?_
                    | with_reducible refine LexK.ext_on hex3.out ?_
                    | refine LexK.ext_on (LexK.Ext.refl _) ?_)
                | ((with_reducible refine at_load ?_); first
                    | refine wpList_load_row rfl 25 (.tmp 2) rfl _ rfl _ _ (0, 0) _ Hr11.out rfl rfl (by kernel_rfl) ?_
                    | refine wpList_load_row rfl 25 (.tmp 3) rfl _ rfl _ _ (0, 0) _ r13 rfl rfl (by kernel_rfl) ?_)
                | (go_at_call 18; first
                    | (refine hg1.mono ?_; rintro e w3 ⟨rfl, hb3⟩; have Hl3 := Lib.hid (Nat.le_trans Hl11.out (show wr.drew.heap.size ≤ w3.heap.size from hb3.size)); have hex3 := Lib.hid (show LexK.Ext (fun b => b < wb.heap.size) wr.drew w3 from ext_lt (hb3.mono Hl11.out)); have HO3 := Lib.hid ((OS.drew Hoi.out.own).below hb3); have HB3 := Lib.hid (Hoi.out.below.drew.trans (hb3.mono Hoi.out.below.size)); have HOf := HO3; have HBf := HB3; have z7 := cell_keep HB3.out Hq2.out Hc0.out; clear hb3)))
              refine ⟨⟨k + 1, by omega, by go_num, ?_⟩, by simp [intOf]; omega⟩
              rw [Hfl.out, HF1.out, HF2.out]
              exact ⟨by simpa using HOf.out, HBf.out⟩
          | false =>
            cases hF2 : F2 x with
            | true =>
              have HF1 := Lib.hid hF1; have HF2 := Lib.hid hF2
              rw [hF1] at hg1
              clear hF1 hF2 hR2
              go_wp2_with (first
                | ((with_reducible refine Lex.at_finK ?_); refine LexK.finE_on (by kernel_rfl) (by repeat first | exact LexK.finL_nil | refine LexK.finL_none rfl ?_ | refine LexK.finL_skip (by decide +kernel) ?_) ?_)
                | ((with_reducible refine Lex.at_region ?_); refine LexK.wp_region_lexE (fun b => b < wb.heap.size) (by kernel_rfl) (by decide +kernel) ?_)
                | ((with_reducible refine Lex.at_wpX ?_); with_reducible refine LexK.wpX_plain (by decide +kernel) ?_)
                | ((with_reducible refine Lex.at_wpX ?_); with_reducible refine LexK.wpX_call ?_)
                | ((with_reducible refine Lex.at_wpX ?_); with_reducible refine LexK.wpX_nil ?_)
                | ((with_reducible refine Lex.at_ext ?_); first
                    | with_reducible refine LexK.ext_on hex4.out ?_
                    | with_reducible refine LexK.ext_on hex3.out ?_
                    | refine LexK.ext_on (LexK.Ext.refl _) ?_)
                | ((with_reducible refine at_load ?_); first
                    | refine wpList_load_row rfl 25 (.tmp 2) rfl _ rfl _ _ (0, 0) _ Hr11.out rfl rfl (by kernel_rfl) ?_
                    | refine wpList_load_row rfl 25 (.tmp 3) rfl _ rfl _ _ (0, 0) _ r13 rfl rfl (by kernel_rfl) ?_)
                | (go_at_call 18; first
                    | (refine hg2.mono ?_; rintro e w4 ⟨rfl, hb4⟩; have Hb4 := Lib.hid hb4; have hex4 := Lib.hid (show LexK.Ext (fun b => b < wb.heap.size) w3 w4 from ext_lt (hb4.mono Hl3.out)); have HOf := Lib.hid (HO3.out.below hb4); have HBf := Lib.hid (HB3.out.trans (hb4.mono HB3.out.size)); have z8 := cell_keep HBf.out Hq2.out Hc0.out; clear hb4)
                    | (refine hg1.mono ?_; rintro e w3 ⟨rfl, hb3⟩; have Hl3 := Lib.hid (Nat.le_trans Hl11.out (show wr.drew.heap.size ≤ w3.heap.size from hb3.size)); have hex3 := Lib.hid (show LexK.Ext (fun b => b < wb.heap.size) wr.drew w3 from ext_lt (hb3.mono Hl11.out)); have HO3 := Lib.hid ((OS.drew Hoi.out.own).below hb3); have HB3 := Lib.hid (Hoi.out.below.drew.trans (hb3.mono Hoi.out.below.size)); have hg2 := G2.out x w3 (HSt2.out.below hb3); rw [HF2.out] at hg2; have r13 := row_keep HB3.out Hl12.out Hr12.out; have z5 : w3.cell? ⟨w.heap.size + 1, 0, none⟩ = some (.bool true) := cell_of_row _ _ _ _ _ _ r13; have z6 : w3.cell? ⟨w.heap.size + 1, 1, none⟩ = some (.slice p2 L2.length cap2) := cell_of_row _ _ _ _ _ _ r13; have z7 := cell_keep HB3.out Hq2.out Hc0.out; clear hb3)))
              refine ⟨⟨k + 1, by omega, by go_num, ?_⟩, by simp [intOf]; omega⟩
              rw [Hfl.out, HF1.out, HF2.out]
              exact ⟨by simpa using HOf.out, HBf.out⟩
            | false =>
              have HF1 := Lib.hid hF1; have HF2 := Lib.hid hF2
              rw [hF1] at hg1
              clear hF1 hF2 hR2
              go_wp2_with (first
                | ((with_reducible refine Lex.at_finK ?_); refine LexK.finE_on (by kernel_rfl) (by repeat first | exact LexK.finL_nil | refine LexK.finL_none rfl ?_ | refine LexK.finL_skip (by decide +kernel) ?_) ?_)
                | ((with_reducible refine Lex.at_region ?_); refine LexK.wp_region_lexE (fun b => b < wb.heap.size) (by kernel_rfl) (by decide +kernel) ?_)
                | ((with_reducible refine Lex.at_wpX ?_); with_reducible refine LexK.wpX_plain (by decide +kernel) ?_)
                | ((with_reducible refine Lex.at_wpX ?_); with_reducible refine LexK.wpX_call ?_)
                | ((with_reducible refine Lex.at_wpX ?_); with_reducible refine LexK.wpX_nil ?_)
                | ((with_reducible refine Lex.at_ext ?_); first
                    | with_reducible refine LexK.ext_on hex4.out ?_
                    | with_reducible refine LexK.ext_on hex3.out ?_
                    | refine LexK.ext_on (LexK.Ext.refl _) ?_)
                | ((with_reducible refine at_load ?_); first
                    | refine wpList_load_row rfl 25 (.tmp 2) rfl _ rfl _ _ (0, 0) _ Hr11.out rfl rfl (by kernel_rfl) ?_
                    | refine wpList_load_row rfl 25 (.tmp 3) rfl _ rfl _ _ (0, 0) _ r13 rfl rfl (by kernel_rfl) ?_)
                | (go_at_call 18; first
                    | (refine hg2.mono ?_; rintro e w4 ⟨rfl, hb4⟩; have Hb4 := Lib.hid hb4; have hex4 := Lib.hid (show LexK.Ext (fun b => b < wb.heap.size) w3 w4 from ext_lt (hb4.mono Hl3.out)); have HOf := Lib.hid (HO3.out.below hb4); have HBf := Lib.hid (HB3.out.trans (hb4.mono HB3.out.size)); have z8 := cell_keep HBf.out Hq2.out Hc0.out; clear hb4)
                    | (refine hg1.mono ?_; rintro e w3 ⟨rfl, hb3⟩; have Hl3 := Lib.hid (Nat.le_trans Hl11.out (show wr.drew.heap.size ≤ w3.heap.size from hb3.size)); have hex3 := Lib.hid (show LexK.Ext (fun b => b < wb.heap.size) wr.drew w3 from ext_lt (hb3.mono Hl11.out)); have HO3 := Lib.hid ((OS.drew Hoi.out.own).below hb3); have HB3 := Lib.hid (Hoi.out.below.drew.trans (hb3.mono Hoi.out.below.size)); have hg2 := G2.out x w3 (HSt2.out.below hb3); rw [HF2.out] at hg2; have r13 := row_keep HB3.out Hl12.out Hr12.out; have z5 : w3.cell? ⟨w.heap.size + 1, 0, none⟩ = some (.bool true) := cell_of_row _ _ _ _ _ _ r13; have z6 : w3.cell? ⟨w.heap.size + 1, 1, none⟩ = some (.slice p2 L2.length cap2) := cell_of_row _ _ _ _ _ _ r13; have z7 := cell_keep HB3.out Hq2.out Hc0.out; clear hb3))
                | (at_builtin; refine wpList_append_name rfl (.tmp 43) (.tmp 48) rfl w2.heap.size _ HBf.out.size x Hsz.out _ _ rfl HOf.out Hln.out rfl ?_; intro v' w5 ho5 hb5; have Ho5 := Lib.hid ho5; have HB5 := Lib.hid (hb5 _ HBf.out); clear ho5 hb5))
              refine ⟨⟨k + 1, by omega, by go_num, ?_⟩, by simp [intOf]; omega⟩
              rw [Hfl.out, HF1.out, HF2.out]
              exact ⟨Ho5.out, HB5.out⟩
        · obtain rfl : k = A.length := by omega
          rw [List.take_length] at Hoi
          have hln : (fl F1 F2 true A).length ≤ 100000 := Nat.le_trans (fl_len _ _ _ _) hal
          generalize fl F1 F2 true A = M at *
          obtain ⟨p1', cap1', rfl, _⟩ := Hoi.out.own.cut
          have hmk := makeNames_any true p1' cap1' M hln wr Hoi.out.own.sl
          have Hb6 := Lib.hid (Hb2.out.trans (Hoi.out.below.mono Hb2.out.size))
          have Hr6 := Lib.hid (row_keep Hb6.out Hlt2.out Hr2.out)
          have Hl6 := Lib.hid (Nat.le_trans Hlt2.out Hb6.out.size)
          go_wp2_with (first
            | (go_at_call 9; refine hmk.mono ?_; rintro e w6 ⟨p6, cap6, rfl, hs6, hlo6, hb6⟩; have Hs6 := Lib.hid hs6; have Hlo := Lib.hid hlo6; have Hb7 := Lib.hid (Hb6.out.trans (hb6.mono Hb6.out.size)); have Hr7 := Lib.hid (row_keep hb6 Hl6.out Hr6.out); clear hs6 hlo6 hb6)
            | ((with_reducible refine at_store ?_); refine wpList_store_row rfl 25 (.tmp 4) (.tmp 52) rfl _ _ rfl rfl _ _ Hr7.out (by kernel_rfl) (by kernel_rfl) (by kernel_rfl) ?_))
          exact bodyPost_ret (results_cell_row rfl _ _ (w.heap.size + 2) 25 _ (0, 0) _ rfl (setRow_heap _ _ _ _ _ _ Hr7.out) rfl rfl (by kernel_rfl)) rfl
            ⟨p6, cap6, rfl, Hs6.out.setRow (fun a h1 h2 => by have := Hlo.out a h1 h2; have := Hl6.out; omega) _, fun a h1 h2 => by have := Hlo.out a h1 h2; have := Hl6.out; omega, below_setRow (Hb0.out.trans (Hb7.out.mono Hb0.out.size)) (by omega) _⟩
    | false =>
      simp only [Bool.or_self, Bool.or_true, Bool.true_or, Bool.or_false, Bool.false_or] at hCO
      subst hCO
      have hal := HA2.out
      go_wp2
      go_loopw [5, 8] (fun v i wr => ∃ k : Nat, k ≤ A.length ∧ i = .int .i64 k ∧ OI w2 w2.heap.size v (fl F1 F2 true (A.take k)) wr) (fun _ i _ => A.length - (intOf i).toNat)
      case atStart => exact ⟨0, by omega, rfl, OS.nil _ _, Below.refl _ _⟩
      case round =>
        obtain ⟨k, hk, rfl, hoi⟩ := hrel
        have Hoi := Lib.hid hoi; clear hoi
        by_cases hlt : k < A.length
        · obtain ⟨a, o, rfl, ha, c0'⟩ := HSA.out.cell k hlt
          have Hq2 := Lib.hid ha; have Hc0 := Lib.hid c0'
          have c0 := cell_keep Hoi.out.below ha c0'
          have hg1 := G1.out A[k] wr.drew ((HS1.out.below (Hb2.out.trans (Hoi.out.below.mono Hb2.out.size))).drew)
          have HSt2 := Lib.hid ((HS2.out.below (Hb2.out.trans (Hoi.out.below.mono Hb2.out.size))).drew)
          have Hfl := Lib.hid (fl_step F1 F2 true A k hlt)
          have Hsz := Lib.hid (HSA.out.size A[k] (List.getElem_mem hlt))
          have Hln := Lib.hid (show (fl F1 F2 true (A.take k)).length ≤ 1000000 from Nat.le_trans (fl_len _ _ _ _) (by simp; omega))
          have Hl11 := Lib.hid (show wb.heap.size ≤ wr.drew.heap.size from Nat.le_trans Hb2.out.size Hoi.out.below.size)
          have Hr11 := Lib.hid (show wr.drew.heap[w.heap.size]? = _ from row_keep (Hb2.out.trans (Hoi.out.below.mono Hb2.out.size)).drew Hlt0.out Hr0.out)
          have Hr12 := Lib.hid (row_keep Hb2.out Hlt1.out Hr1.out)
          have Hl12 := Lib.hid (show w.heap.size + 1 < w2.heap.size from Nat.lt_of_lt_of_le Hlt1.out Hb2.out.size)
          generalize A[k] = x at *
          clear ha c0'
          have hR2 : F2 x = F2 x := rfl
          cases hF1 : F1 x with
          | true =>
            cases hF2 : F2 x with
            | true =>
              have HF1 := Lib.hid hF1; have HF2 := Lib.hid hF2
              rw [hF1] at hg1
              clear hF1 hF2 hR2
              go_wp2_with (first
                | ((with_reducible refine Lex.at_finK ?_); refine LexK.finE_on (by kernel_rfl) (by repeat first | exact LexK.finL_nil | refine LexK.finL_none rfl ?_ | refine LexK.finL_skip (by decide +kernel) ?_) ?_)
                | ((with_reducible refine Lex.at_region ?_); refine LexK.wp_region_lexE (fun b => b < wb.heap.size) (by kernel_rfl) (by decide +kernel) ?_)
                | ((with_reducible refine Lex.at_wpX ?_); with_reducible refine LexK.wpX_plain (by decide +kernel) ?_)
                | ((with_reducible refine Lex.at_wpX ?_); with_reducible refine LexK.wpX_call ?_)
                | ((with_reducible refine Lex.at_wpX ?_); with_reducible refine LexK.wpX_nil ?_)
                | ((with_reducible refine Lex.at_ext ?_); first
                    | with_reducible refine LexK.ext_on hex4.out ?_
                    | with_reducible refine LexK.ext_on hex3.out ?_
                    | refine LexK.ext_on (LexK.Ext.refl _) ?_)
                | ((with_reducible refine at_load ?_); first
                    | refine wpList_load_row rfl 25 (.tmp 2) rfl _ rfl _ _ (0, 0) _ Hr11.out rfl rfl (by kernel_rfl) ?_
                    | refine wpList_load_row rfl 25 (.tmp 3) rfl _ rfl _ _ (0, 0) _ r13 rfl rfl (by kernel_rfl) ?_)
                | (go_at_call 18; first
                    | (refine hg1.mono ?_; rintro e w3 ⟨rfl, hb3⟩; have Hl3 := Lib.hid (Nat.le_trans Hl11.out (show wr.drew.heap.size ≤ w3.heap.size from hb3.size)); have hex3 := Lib.hid (show LexK.Ext (fun b => b < wb.heap.size) wr.drew w3 from ext_lt (hb3.mono Hl11.out)); have HO3 := Lib.hid ((OS.drew Hoi.out.own).below hb3); have HB3 := Lib.hid (Hoi.out.below.drew.trans (hb3.mono Hoi.out.below.size)); have HOf := HO3; have HBf := HB3; have z7 := cell_keep HB3.out Hq2.out Hc0.out; clear hb3)))
              refine ⟨⟨k + 1, by omega, by go_num, ?_⟩, by simp [intOf]; omega⟩
              rw [Hfl.out, HF1.out, HF2.out]
              exact ⟨by simpa using HOf.out, HBf.out⟩
            | false =>
              have HF1 := Lib.hid hF1; have HF2 := Lib.hid hF2
              rw [hF1] at hg1
              clear hF1 hF2 hR2
              go_wp2_with (first
                | ((with_reducible refine Lex.at_finK ?_); refine LexK.finE_on (by kernel_rfl) (by repeat first | exact LexK.finL_nil | refine LexK.finL_none rfl ?_ | refine LexK.finL_skip (by decide +kernel) ?_) ?_)
                | ((with_reducible refine Lex.at_region ?_); refine LexK.wp_region_lexE (fun b => b < wb.heap.size) (by kernel_rfl) (by decide +kernel) ?_)
                | ((with_reducible refine Lex.at_wpX ?_); with_reducible refine LexK.wpX_plain (by decide +kernel) ?_)
                | ((with_reducible refine Lex.at_wpX ?_); with_reducible refine LexK.wpX_call ?_)
                | ((with_reducible refine Lex.at_wpX ?_); with_reducible refine LexK.wpX_nil ?_)
                | ((with_reducible refine Lex.at_ext ?_); first
                    | with_reducible refine LexK.ext_on hex4.out ?_
                    | with_reducible refine LexK.ext_on hex3.out ?_
                    | refine LexK.ext_on (LexK.Ext.refl _) ?_)
                | ((with_reducible refine at_load ?_); first
                    | refine wpList_load_row rfl 25 (.tmp 2) rfl _ rfl _ _ (0, 0) _ Hr11.out rfl rfl (by kernel_rfl) ?_
                    | refine wpList_load_row rfl 25 (.tmp 3) rfl _ rfl _ _ (0, 0) _ r13 rfl rfl (by kernel_rfl) ?_)
                | (go_at_call 18; first
                    | (refine hg1.mono ?_; rintro e w3 ⟨rfl, hb3⟩; have Hl3 := Lib.hid (Nat.le_trans Hl11.out (show wr.drew.heap.size ≤ w3.heap.size from hb3.size)); have hex3 := Lib.hid (show LexK.Ext (fun b => b < wb.heap.size) wr.drew w3 from ext_lt (hb3.mono Hl11.out)); have HO3 := Lib.hid ((OS.drew Hoi.out.own).below hb3); have HB3 := Lib.hid (Hoi.out.below.drew.trans (hb3.mono Hoi.out.below.size)); have HOf := HO3; have HBf := HB3; have z7 := cell_keep HB3.out Hq2.out Hc0.out; clear hb3)))
              refine ⟨⟨k + 1, by omega, by go_num, ?_⟩, by simp [intOf]; omega⟩
              rw [Hfl.out, HF1.out, HF2.out]
              exact ⟨by simpa using HOf.out, HBf.out⟩
          | false =>
            cases hF2 : F2 x with
            | true =>
              have HF1 := Lib.hid hF1; have HF2 := Lib.hid hF2
              rw [hF1] at hg1
              clear hF1 hF2 hR2
              go_wp2_with (first
                | ((with_reducible refine Lex.at_finK ?_); refine LexK.finE_on (by kernel_rfl) (by repeat first | exact LexK.finL_nil | refine LexK.finL_none rfl ?_ | refine LexK.finL_skip (by decide +kernel) ?_) ?_)
                | ((with_reducible refine Lex.at_region ?_); refine LexK.wp_region_lexE (fun b => b < wb.heap.size) (by kernel_rfl) (by decide +kernel) ?_)
                | ((with_reducible refine Lex.at_wpX ?_); with_reducible refine LexK.wpX_plain (by decide +kernel) ?_)
                | ((with_reducible refine Lex.at_wpX ?_); with_reducible refine LexK.wpX_call ?_)
                | ((with_reducible refine Lex.at_wpX ?_); with_reducible refine LexK.wpX_nil ?_)
                | ((with_reducible refine Lex.at_ext ?_); first
                    | with_reducible refine LexK.ext_on hex4.out ?_
                    | with_reducible refine LexK.ext_on hex3.out ?_
                    | refine LexK.ext_on (LexK.Ext.refl _) ?_)
                | ((with_reducible refine at_load ?_); first
                    | refine wpList_load_row rfl 25 (.tmp 2) rfl _ rfl _ _ (0, 0) _ Hr11.out rfl rfl (by kernel_rfl) ?_
                    | refine wpList_load_row rfl 25 (.tmp 3) rfl _ rfl _ _ (0, 0) _ r13 rfl rfl (by kernel_rfl) ?_)
                | (go_at_call 18; first
                    | (refine hg2.mono ?_; rintro e w4 ⟨rfl, hb4⟩; have Hb4 := Lib.hid hb4; have hex4 := Lib.hid (show LexK.Ext (fun b => b < wb.heap.size) w3 w4 from ext_lt (hb4.mono Hl3.out)); have HOf := Lib.hid (HO3.out.below hb4); have HBf := Lib.hid (HB3.out.trans (hb4.mono HB3.out.size)); have z8 := cell_keep HBf.out Hq2.out Hc0.out; clear hb4)
                    | (refine hg1.mono ?_; rintro e w3 ⟨rfl, hb3⟩; have Hl3 := Lib.hid (Nat.le_trans Hl11.out (show wr.drew.heap.size ≤ w3.heap.size from hb3.size)); have hex3 := Lib.hid (show LexK.Ext (fun b => b < wb.heap.size) wr.drew w3 from ext_lt (hb3.mono Hl11.out)); have HO3 := Lib.hid ((OS.drew Hoi.out.own).below hb3); have HB3 := Lib.hid (Hoi.out.below.drew.trans (hb3.mono Hoi.out.below.size)); have hg2 := G2.out x w3 (HSt2.out.below hb3); rw [HF2.out] at hg2; have r13 := row_keep HB3.out Hl12.out Hr12.out; have z5 : w3.cell? ⟨w.heap.size + 1, 0, none⟩ = some (.bool false) := cell_of_row _ _ _ _ _ _ r13; have z6 : w3.cell? ⟨w.heap.size + 1, 1, none⟩ = some (.slice p2 L2.length cap2) := cell_of_row _ _ _ _ _ _ r13; have z7 := cell_keep HB3.out Hq2.out Hc0.out; clear hb3)))
              refine ⟨⟨k + 1, by omega, by go_num, ?_⟩, by simp [intOf]; omega⟩
              rw [Hfl.out, HF1.out, HF2.out]
              exact ⟨by simpa using HOf.out, HBf.out⟩
            | false =>
              have HF1 := Lib.hid hF1; have HF2 := Lib.hid hF2
              rw [hF1] at hg1
              clear hF1 hF2 hR2
              go_wp2_with (first
                | ((with_reducible refine Lex.at_finK ?_); refine LexK.finE_on (by kernel_rfl) (by repeat first | exact LexK.finL_nil | refine LexK.finL_none rfl ?_ | refine LexK.finL_skip (by decide +kernel) ?_) ?_)
                | ((with_reducible refine Lex.at_region ?_); refine LexK.wp_region_lexE (fun b => b < wb.heap.size) (by kernel_rfl) (by decide +kernel) ?_)
                | ((with_reducible refine Lex.at_wpX ?_); with_reducible refine LexK.wpX_plain (by decide +kernel) ?_)
                | ((with_reducible refine Lex.at_wpX ?_); with_reducible refine LexK.wpX_call ?_)
                | ((with_reducible refine Lex.at_wpX ?_); with_reducible refine LexK.wpX_nil ?_)
                | ((with_reducible refine Lex.at_ext ?_); first
                    | with_reducible refine LexK.ext_on hex4.out ?_
                    | with_reducible refine LexK.ext_on hex3.out ?_
                    | refine LexK.ext_on (LexK.Ext.refl _) ?_)
                | ((with_reducible refine at_load ?_); first
                    | refine wpList_load_row rfl 25 (.tmp 2) rfl _ rfl _ _ (0, 0) _ Hr11.out rfl rfl (by kernel_rfl) ?_
                    | refine wpList_load_row rfl 25 (.tmp 3) rfl _ rfl _ _ (0, 0) _ r13 rfl rfl (by kernel_rfl) ?_)
                | (go_at_call 18; first
                    | (refine hg2.mono ?_; rintro e w4 ⟨rfl, hb4⟩; have Hb4 := Lib.hid hb4; have hex4 := Lib.hid (show LexK.Ext (fun b => b < wb.heap.size) w3 w4 from ext_lt (hb4.mono Hl3.out)); have HOf := Lib.hid (HO3.out.below hb4); have HBf := Lib.hid (HB3.out.trans (hb4.mono HB3.out.size)); have z8 := cell_keep HBf.out Hq2.out Hc0.out; clear hb4)
                    | (refine hg1.mono ?_; rintro e w3 ⟨rfl, hb3⟩; have Hl3 := Lib.hid (Nat.le_trans Hl11.out (show wr.drew.heap.size ≤ w3.heap.size from hb3.size)); have hex3 := Lib.hid (show LexK.Ext (fun b => b < wb.heap.size) wr.drew w3 from ext_lt (hb3.mono Hl11.out)); have HO3 := Lib.hid ((OS.drew Hoi.out.own).below hb3); have HB3 := Lib.hid (Hoi.out.below.drew.trans (hb3.mono Hoi.out.below.size)); have hg2 := G2.out x w3 (HSt2.out.below hb3); rw [HF2.out] at hg2; have r13 := row_keep HB3.out Hl12.out Hr12.out; have z5 : w3.cell? ⟨w.heap.size + 1, 0, none⟩ = some (.bool false) := cell_of_row _ _ _ _ _ _ r13; have z6 : w3.cell? ⟨w.heap.size + 1, 1, none⟩ = some (.slice p2 L2.length cap2) := cell_of_row _ _ _ _ _ _ r13; have z7 := cell_keep HB3.out Hq2.out Hc0.out; clear hb3))
                | (at_builtin; refine wpList_append_name rfl (.tmp 43) (.tmp 48) rfl w2.heap.size _ HBf.out.size x Hsz.out _ _ rfl HOf.out Hln.out rfl ?_; intro v' w5 ho5 hb5; have Ho5 := Lib.hid ho5; have HB5 := Lib.hid (hb5 _ HBf.out); clear ho5 hb5))
              refine ⟨⟨k + 1, by omega, by go_num, ?_⟩, by simp [intOf]; omega⟩
              rw [Hfl.out, HF1.out, HF2.out]
              exact ⟨Ho5.out, HB5.out⟩
        · obtain rfl : k = A.length := by omega
          rw [List.take_length] at Hoi
          have hln : (fl F1 F2 true A).length ≤ 100000 := Nat.le_trans (fl_len _ _ _ _) hal
          generalize fl F1 F2 true A = M at *
          obtain ⟨p1', cap1', rfl, _⟩ := Hoi.out.own.cut
          have hmk := makeNames_any true p1' cap1' M hln wr Hoi.out.own.sl
          have Hb6 := Lib.hid (Hb2.out.trans (Hoi.out.below.mono Hb2.out.size))
          have Hr6 := Lib.hid (row_keep Hb6.out Hlt2.out Hr2.out)
          have Hl6 := Lib.hid (Nat.le_trans Hlt2.out Hb6.out.size)
          go_wp2_with (first
            | (go_at_call 9; refine hmk.mono ?_; rintro e w6 ⟨p6, cap6, rfl, hs6, hlo6, hb6⟩; have Hs6 := Lib.hid hs6; have Hlo := Lib.hid hlo6; have Hb7 := Lib.hid (Hb6.out.trans (hb6.mono Hb6.out.size)); have Hr7 := Lib.hid (row_keep hb6 Hl6.out Hr6.out); clear hs6 hlo6 hb6)
            | ((with_reducible refine at_store ?_); refine wpList_store_row rfl 25 (.tmp 4) (.tmp 52) rfl _ _ rfl rfl _ _ Hr7.out (by kernel_rfl) (by kernel_rfl) (by kernel_rfl) ?_))
          exact bodyPost_ret (results_cell_row rfl _ _ (w.heap.size + 2) 25 _ (0, 0) _ rfl (setRow_heap _ _ _ _ _ _ Hr7.out) rfl rfl (by kernel_rfl)) rfl
            ⟨p6, cap6, rfl, Hs6.out.setRow (fun a h1 h2 => by have := Hlo.out a h1 h2; have := Hl6.out; omega) _, fun a h1 h2 => by have := Hlo.out a h1 h2; have := Hl6.out; omega, below_setRow (Hb0.out.trans (Hb7.out.mono Hb0.out.size)) (by omega) _⟩
  | false =>
    cases c2 with
    | true =>
      simp only [Bool.or_self, Bool.or_true, Bool.true_or, Bool.or_false, Bool.false_or] at hCO
      subst hCO
      have hal := HA2.out
      go_wp2
      go_loopw [5, 8] (fun v i wr => ∃ k : Nat, k ≤ A.length ∧ i = .int .i64 k ∧ OI w2 w2.heap.size v (fl F1 F2 true (A.take k)) wr) (fun _ i _ => A.length - (intOf i).toNat)
      case atStart => exact ⟨0, by omega, rfl, OS.nil _ _, Below.refl _ _⟩
      case round =>
        obtain ⟨k, hk, rfl, hoi⟩ := hrel
        have Hoi := Lib.hid hoi; clear hoi
        by_cases hlt : k < A.length
        · obtain ⟨a, o, rfl, ha, c0'⟩ := HSA.out.cell k hlt
          have Hq2 := Lib.hid ha; have Hc0 := Lib.hid c0'
          have c0 := cell_keep Hoi.out.below ha c0'
          have hg1 := G1.out A[k] wr.drew ((HS1.out.below (Hb2.out.trans (Hoi.out.below.mono Hb2.out.size))).drew)
          have HSt2 := Lib.hid ((HS2.out.below (Hb2.out.trans (Hoi.out.below.mono Hb2.out.size))).drew)
          have Hfl := Lib.hid (fl_step F1 F2 true A k hlt)
          have Hsz := Lib.hid (HSA.out.size A[k] (List.getElem_mem hlt))
          have Hln := Lib.hid (show (fl F1 F2 true (A.take k)).length ≤ 1000000 from Nat.le_trans (fl_len _ _ _ _) (by simp; omega))
          have Hl11 := Lib.hid (show wb.heap.size ≤ wr.drew.heap.size from Nat.le_trans Hb2.out.size Hoi.out.below.size)
          have Hr11 := Lib.hid (show wr.drew.heap[w.heap.size]? = _ from row_keep (Hb2.out.trans (Hoi.out.below.mono Hb2.out.size)).drew Hlt0.out Hr0.out)
          have Hr12 := Lib.hid (row_keep Hb2.out Hlt1.out Hr1.out)
          have Hl12 := Lib.hid (show w.heap.size + 1 < w2.heap.size from Nat.lt_of_lt_of_le Hlt1.out Hb2.out.size)
          generalize A[k] = x at *
          clear ha c0'
          have hR2 : F2 x = F2 x := rfl
          cases hF1 : F1 x with
          | true =>
            cases hF2 : F2 x with
            | true =>
              have HF1 := Lib.hid hF1; have HF2 := Lib.hid hF2
              rw [hF1] at hg1
              clear hF1 hF2 hR2
              go_wp2_with (first
                | ((with_reducible refine Lex.at_finK ?_); refine LexK.finE_on (by kernel_rfl) (by repeat first | exact LexK.finL_nil | refine LexK.finL_none rfl ?_ | refine LexK.finL_skip (by decide +kernel) ?_) ?_)
                | ((with_reducible refine Lex.at_region ?_); refine LexK.wp_region_lexE (fun b => b < wb.heap.size) (by kernel_rfl) (by decide +kernel) ?_)
                | ((with_reducible refine Lex.at_wpX ?_); with_reducible refine LexK.wpX_plain (by decide +kernel) ?_)
                | ((with_reducible refine Lex.at_wpX ?_); with_reducible refine LexK.wpX_call ?_)
                | ((with_reducible refine Lex.at_wpX ?_); with_reducible refine LexK.wpX_nil ?_)
                | ((with_reducible refine Lex.at_ext ?_); first
                    | with_reducible refine LexK.ext_on hex4.out ?_
                    | with_reducible refine LexK.ext_on hex3.out ?_
                    | refine LexK.ext_on (LexK.Ext.refl _) ?_)
                | ((with_reducible refine at_load ?_); first
                    | refine wpList_load_row rfl 25 (.tmp 2) rfl _ rfl _ _ (0, 0) _ Hr11.out rfl rfl (by kernel_rfl) ?_
                    | refine wpList_load_row rfl 25 (.tmp 3) rfl _ rfl _ _ (0, 0) _ r13 rfl rfl (by kernel_rfl) ?_)
                | (go_at_call 18; first
                    | (refine hg1.mono ?_; rintro e w3 ⟨rfl, hb3⟩; have Hl3 := Lib.hid (Nat.le_trans Hl11.out (show wr.drew.heap.size ≤ w3.heap.size from hb3.size)); have hex3 := Lib.hid (show LexK.Ext (fun b => b < wb.heap.size) wr.drew w3 from ext_lt (hb3.mono Hl11.out)); have HO3 := Lib.hid ((OS.drew Hoi.out.own).below hb3); have HB3 := Lib.hid (Hoi.out.below.drew.trans (hb3.mono Hoi.out.below.size)); have HOf := HO3; have HBf := HB3; have z7 := cell_keep HB3.out Hq2.out Hc0.out; clear hb3)))
              refine ⟨⟨k + 1, by omega, by go_num, ?_⟩, by simp [intOf]; omega⟩
              rw [Hfl.out, HF1.out, HF2.out]
              exact ⟨by simpa using HOf.out, HBf.out⟩
            | false =>
              have HF1 := Lib.hid hF1; have HF2 := Lib.hid hF2
              rw [hF1] at hg1
              clear hF1 hF2 hR2
              go_wp2_with (first
                | ((with_reducible refine Lex.at_finK ?_); refine LexK.finE_on (by kernel_rfl) (by repeat first | exact LexK.finL_nil | refine LexK.finL_none rfl ?_ | refine LexK.finL_skip (by decide +kernel) ?_) ?_)
                | ((with_reducible refine Lex.at_region ?_); refine LexK.wp_region_lexE (fun b => b < wb.heap.size) (by kernel_rfl) (by decide +kernel) ?_)
                | ((with_reducible refine Lex.at_wpX ?_); with_reducible refine LexK.wpX_plain (by decide +kernel) ?_)
                | ((with_reducible refine Lex.at_wpX ?_); with_reducible refine LexK.wpX_call ?_)
                | ((with_reducible refine Lex.at_wpX ?_); with_reducible refine LexK.wpX_nil ?_)
                | ((with_reducible refine Lex.at_ext ?_); first
                    | with_reducible refine LexK.ext_on hex4.out ?_
                    | with_reducible refine LexK.ext_on hex3.out ?_
                    | refine LexK.ext_on (LexK.Ext.refl _) ?_)
                | ((with_reducible refine at_load ?_); first
                    | refine wpList_load_row rfl 25 (.tmp 2) rfl _ rfl _ _ (0, 0) _ Hr11.out rfl rfl (by kernel_rfl) ?_
                    | refine wpList_load_row rfl 25 (.tmp 3) rfl _ rfl _ _ (0, 0) _ r13 rfl rfl (by kernel_rfl) ?_)
                | (go_at_call 18; first
                    | (refine hg1.mono ?_; rintro e w3 ⟨rfl, hb3⟩; have Hl3 := Lib.hid (Nat.le_trans Hl11.out (show wr.drew.heap.size ≤ w3.heap.size from hb3.size)); have hex3 := Lib.hid (show LexK.Ext (fun b => b < wb.heap.size) wr.drew w3 from ext_lt (hb3.mono Hl11.out)); have HO3 := Lib.hid ((OS.drew Hoi.out.own).below hb3); have HB3 := Lib.hid (Hoi.out.below.drew.trans (hb3.mono Hoi.out.below.size)); have HOf := HO3; have HBf := HB3; have z7 := cell_keep HB3.out Hq2.out Hc0.out; clear hb3)))
              refine ⟨⟨k + 1, by omega, by go_num, ?_⟩, by simp [intOf]; omega⟩
              rw [Hfl.out, HF1.out, HF2.out]
              exact ⟨by simpa using HOf.out, HBf.out⟩
          | false =>
            cases hF2 : F2 x with
            | true =>
              have HF1 := Lib.hid hF1; have HF2 := Lib.hid hF2
              rw [hF1] at hg1
              clear hF1 hF2 hR2
              go_wp2_with (first
                | ((with_reducible refine Lex.at_finK ?_); refine LexK.finE_on (by kernel_rfl) (by repeat first | exact LexK.finL_nil | refine LexK.finL_none rfl ?_ | refine LexK.finL_skip (by decide +kernel) ?_) ?_)
                | ((with_reducible refine Lex.at_region ?_); refine LexK.wp_region_lexE (fun b => b < wb.heap.size) (by kernel_rfl) (by decide +kernel) ?_)
                | ((with_reducible refine Lex.at_wpX ?_); with_reducible refine LexK.wpX_plain (by decide +kernel) ?_)
                | ((with_reducible refine Lex.at_wpX ?_); with_reducible refine LexK.wpX_call ?_)
                | ((with_reducible refine Lex.at_wpX ?_); with_reducible refine LexK.wpX_nil ?_)
                | ((with_reducible refine Lex.at_ext ?_); first
                    | with_reducible refine LexK.ext_on hex4.out ?_
                    | with_reducible refine LexK.ext_on hex3.out ?_
                    | refine LexK.ext_on (LexK.Ext.refl _) ?_)
                | ((with_reducible refine at_load ?_); first
                    | refine wpList_load_row rfl 25 (.tmp 2) rfl _ rfl _ _ (0, 0) _ Hr11.out rfl rfl (by kernel_rfl) ?_
                    | refine wpList_load_row rfl 25 (.tmp 3) rfl _ rfl _ _ (0, 0) _ r13 rfl rfl (by kernel_rfl) ?_)
                | (go_at_call 18; first
                    | (refine hg2.mono ?_; rintro e w4 ⟨rfl, hb4⟩; have Hb4 := Lib.hid hb4; have hex4 := Lib.hid (show LexK.Ext (fun b => b < wb.heap.size) w3 w4 from ext_lt (hb4.mono Hl3.out)); have HOf := Lib.hid (HO3.out.below hb4); have HBf := Lib.hid (HB3.out.trans (hb4.mono HB3.out.size)); have z8 := cell_keep HBf.out Hq2.out Hc0.out; clear hb4)
                    | (refine hg1.mono ?_; rintro e w3 ⟨rfl, hb3⟩; have Hl3 := Lib.hid (Nat.le_trans Hl11.out (show wr.drew.heap.size ≤ w3.heap.size from hb3.size)); have hex3 := Lib.hid (show LexK.Ext (fun b => b < wb.heap.size) wr.drew w3 from ext_lt (hb3.mono Hl11.out)); have HO3 := Lib.hid ((OS.drew Hoi.out.own).below hb3); have HB3 := Lib.hid (Hoi.out.below.drew.trans (hb3.mono Hoi.out.below.size)); have hg2 := G2.out x w3 (HSt2.out.below hb3); rw [HF2.out] at hg2; have r13 := row_keep HB3.out Hl12.out Hr12.out; have z5 : w3.cell? ⟨w.heap.size + 1, 0, none⟩ = some (.bool true) := cell_of_row _ _ _ _ _ _ r13; have z6 : w3.cell? ⟨w.heap.size + 1, 1, none⟩ = some (.slice p2 L2.length cap2) := cell_of_row _ _ _ _ _ _ r13; have z7 := cell_keep HB3.out Hq2.out Hc0.out; clear hb3)))
              refine ⟨⟨k + 1, by omega, by go_num, ?_⟩, by simp [intOf]; omega⟩
              rw [Hfl.out, HF1.out, HF2.out]
              exact ⟨by simpa using HOf.out, HBf.out⟩
            | false =>
              have HF1 := Lib.hid hF1; have HF2 := Lib.hid hF2
              rw [hF1] at hg1
              clear hF1 hF2 hR2
              go_wp2_with (first
                | ((with_reducible refine Lex.at_finK ?_); refine LexK.finE_on (by kernel_rfl) (by repeat first | exact LexK.finL_nil | refine LexK.finL_none rfl ?_ | refine LexK.finL_skip (by decide +kernel) ?_) ?_)
                | ((with_reducible refine Lex.at_region ?_); refine LexK.wp_region_lexE (fun b => b < wb.heap.size) (by kernel_rfl) (by decide +kernel) ?_)
                | ((with_reducible refine Lex.at_wpX ?_); with_reducible refine LexK.wpX_plain (by decide +kernel) ?_)
                | ((with_reducible refine Lex.at_wpX ?_); with_reducible refine LexK.wpX_call ?_)
                | ((with_reducible refine Lex.at_wpX ?_); with_reducible refine LexK.wpX_nil ?_)
                | ((with_reducible refine Lex.at_ext ?_); first
                    | with_reducible refine LexK.ext_on hex4.out ?_
                    | with_reducible refine LexK.ext_on hex3.out ?_
                    | refine LexK.ext_on (LexK.Ext.refl _) ?_)
                | ((with_reducible refine at_load ?_); first
                    | refine wpList_load_row rfl 25 (.tmp 2) rfl _ rfl _ _ (0, 0) _ Hr11.out rfl rfl (by kernel_rfl) ?_
                    | refine wpList_load_row rfl 25 (.tmp 3) rfl _ rfl _ _ (0, 0) _ r13 rfl rfl (by kernel_rfl) ?_)
                | (go_at_call 18; first
                    | (refine hg2.mono ?_; rintro e w4 ⟨rfl, hb4⟩; have Hb4 := Lib.hid hb4; have hex4 := Lib.hid (show LexK.Ext (fun b => b < wb.heap.size) w3 w4 from ext_lt (hb4.mono Hl3.out)); have HOf := Lib.hid (HO3.out.below hb4); have HBf := Lib.hid (HB3.out.trans (hb4.mono HB3.out.size)); have z8 := cell_keep HBf.out Hq2.out Hc0.out; clear hb4)
                    | (refine hg1.mono ?_; rintro e w3 ⟨rfl, hb3⟩; have Hl3 := Lib.hid (Nat.le_trans Hl11.out (show wr.drew.heap.size ≤ w3.heap.size from hb3.size)); have hex3 := Lib.hid (show LexK.Ext (fun b => b < wb.heap.size) wr.drew w3 from ext_lt (hb3.mono Hl11.out)); have HO3 := Lib.hid ((OS.drew Hoi.out.own).below hb3); have HB3 := Lib.hid (Hoi.out.below.drew.trans (hb3.mono Hoi.out.below.size)); have hg2 := G2.out x w3 (HSt2.out.below hb3); rw [HF2.out] at hg2; have r13 := row_keep HB3.out Hl12.out Hr12.out; have z5 : w3.cell? ⟨w.heap.size + 1, 0, none⟩ = some (.bool true) := cell_of_row _ _ _ _ _ _ r13; have z6 : w3.cell? ⟨w.heap.size + 1, 1, none⟩ = some (.slice p2 L2.length cap2) := cell_of_row _ _ _ _ _ _ r13; have z7 := cell_keep HB3.out Hq2.out Hc0.out; clear hb3))
                | (at_builtin; refine wpList_append_name rfl (.tmp 43) (.tmp 48) rfl w2.heap.size _ HBf.out.size x Hsz.out _ _ rfl HOf.out Hln.out rfl ?_; intro v' w5 ho5 hb5; have Ho5 := Lib.hid ho5; have HB5 := Lib.hid (hb5 _ HBf.out); clear ho5 hb5))
              refine ⟨⟨k + 1, by omega, by go_num, ?_⟩, by simp [intOf]; omega⟩
              rw [Hfl.out, HF1.out, HF2.out]
              exact ⟨Ho5.out, HB5.out⟩
        · obtain rfl : k = A.length := by omega
          rw [List.take_length] at Hoi
          have hln : (fl F1 F2 true A).length ≤ 100000 := Nat.le_trans (fl_len _ _ _ _) hal
          generalize fl F1 F2 true A = M at *
          obtain ⟨p1', cap1', rfl, _⟩ := Hoi.out.own.cut
          have hmk := makeNames_any true p1' cap1' M hln wr Hoi.out.own.sl
          have Hb6 := Lib.hid (Hb2.out.trans (Hoi.out.below.mono Hb2.out.size))
          have Hr6 := Lib.hid (row_keep Hb6.out Hlt2.out Hr2.out)
          have Hl6 := Lib.hid (Nat.le_trans Hlt2.out Hb6.out.size)
          go_wp2_with (first
            | (go_at_call 9; refine hmk.mono ?_; rintro e w6 ⟨p6, cap6, rfl, hs6, hlo6, hb6⟩; have Hs6 := Lib.hid hs6; have Hlo := Lib.hid hlo6; have Hb7 := Lib.hid (Hb6.out.trans (hb6.mono Hb6.out.size)); have Hr7 := Lib.hid (row_keep hb6 Hl6.out Hr6.out); clear hs6 hlo6 hb6)
            | ((with_reducible refine at_store ?_); refine wpList_store_row rfl 25 (.tmp 4) (.tmp 52) rfl _ _ rfl rfl _ _ Hr7.out (by kernel_rfl) (by kernel_rfl) (by kernel_rfl) ?_))
          exact bodyPost_ret (results_cell_row rfl _ _ (w.heap.size + 2) 25 _ (0, 0) _ rfl (setRow_heap _ _ _ _ _ _ Hr7.out) rfl rfl (by kernel_rfl)) rfl
            ⟨p6, cap6, rfl, Hs6.out.setRow (fun a h1 h2 => by have := Hlo.out a h1 h2; have := Hl6.out; omega) _, fun a h1 h2 => by have := Hlo.out a h1 h2; have := Hl6.out; omega, below_setRow (Hb0.out.trans (Hb7.out.mono Hb0.out.size)) (by omega) _⟩
    | false =>
      simp only [Bool.or_self, Bool.or_true, Bool.true_or, Bool.or_false, Bool.false_or] at hCO
      subst hCO
      have hal := HA2.out
      go_wp2
      go_loopw [5, 8] (fun v i wr => ∃ k : Nat, k ≤ A.length ∧ i = .int .i64 k ∧ OI w2 w2.heap.size v (fl F1 F2 false (A.take k)) wr) (fun _ i _ => A.length - (intOf i).toNat)
      case atStart => exact ⟨0, by omega, rfl, OS.nil _ _, Below.refl _ _⟩
      case round =>
        obtain ⟨k, hk, rfl, hoi⟩ := hrel
        have Hoi := Lib.hid hoi; clear hoi
        by_cases hlt : k < A.length
        · obtain ⟨a, o, rfl, ha, c0'⟩ := HSA.out.cell k hlt
          have Hq2 := Lib.hid ha; have Hc0 := Lib.hid c0'
          have c0 := cell_keep Hoi.out.below ha c0'
          have hg1 := G1.out A[k] wr.drew ((HS1.out.below (Hb2.out.trans (Hoi.out.below.mono Hb2.out.size))).drew)
          have HSt2 := Lib.hid ((HS2.out.below (Hb2.out.trans (Hoi.out.below.mono Hb2.out.size))).drew)
          have Hfl := Lib.hid (fl_step F1 F2 false A k hlt)
          have Hsz := Lib.hid (HSA.out.size A[k] (List.getElem_mem hlt))
          have Hln := Lib.hid (show (fl F1 F2 false (A.take k)).length ≤ 1000000 from Nat.le_trans (fl_len _ _ _ _) (by simp; omega))
          have Hl11 := Lib.hid (show wb.heap.size ≤ wr.drew.heap.size from Nat.le_trans Hb2.out.size Hoi.out.below.size)
          have Hr11 := Lib.hid (show wr.drew.heap[w.heap.size]? = _ from row_keep (Hb2.out.trans (Hoi.out.below.mono Hb2.out.size)).drew Hlt0.out Hr0.out)
          have Hr12 := Lib.hid (row_keep Hb2.out Hlt1.out Hr1.out)
          have Hl12 := Lib.hid (show w.heap.size + 1 < w2.heap.size from Nat.lt_of_lt_of_le Hlt1.out Hb2.out.size)
          generalize A[k] = x at *
          clear ha c0'
          have hR2 : F2 x = F2 x := rfl
          cases hF1 : F1 x with
          | true =>
            cases hF2 : F2 x with
            | true =>
              have HF1 := Lib.hid hF1; have HF2 := Lib.hid hF2
              rw [hF1] at hg1
              clear hF1 hF2 hR2
              go_wp2_with (first
                | ((with_reducible refine Lex.at_finK ?_); refine LexK.finE_on (by kernel_rfl) (by repeat first | exact LexK.finL_nil | refine LexK.finL_none rfl ?_ | refine LexK.finL_skip (by decide +kernel) ?_) ?_)
                | ((with_reducible refine Lex.at_region ?_); refine LexK.wp_region_lexE (fun b => b < wb.heap.size) (by kernel_rfl) (by decide +kernel) ?_)
                | ((with_reducible refine Lex.at_wpX ?_); with_reducible refine LexK.wpX_plain (by decide +kernel) ?_)
                | ((with_reducible refine Lex.at_wpX ?_); with_reducible refine LexK.wpX_call ?_)
                | ((with_reducible refine Lex.at_wpX ?_); with_reducible refine LexK.wpX_nil ?_)
                | ((with_reducible refine Lex.at_ext ?_); first
                    | with_reducible refine LexK.ext_on hex4.out ?_
                    | with_reducible refine LexK.ext_on hex3.out ?_
                    | refine LexK.ext_on (LexK.Ext.refl _) ?_)
                | ((with_reducible refine at_load ?_); first
                    | refine wpList_load_row rfl 25 (.tmp 2) rfl _ rfl _ _ (0, 0) _ Hr11.out rfl rfl (by kernel_rfl) ?_
                    | refine wpList_load_row rfl 25 (.tmp 3) rfl _ rfl _ _ (0, 0) _ r13 rfl rfl (by kernel_rfl) ?_)
                | (go_at_call 18; first
                    | (refine hg1.mono ?_; rintro e w3 ⟨rfl, hb3⟩; have Hl3 := Lib.hid (Nat.le_trans Hl11.out (show wr.drew.heap.size ≤ w3.heap.size from hb3.size)); have hex3 := Lib.hid (show LexK.Ext (fun b => b < wb.heap.size) wr.drew w3 from ext_lt (hb3.mono Hl11.out)); have HO3 := Lib.hid ((OS.drew Hoi.out.own).below hb3); have HB3 := Lib.hid (Hoi.out.below.drew.trans (hb3.mono Hoi.out.below.size)); have HOf := HO3; have HBf := HB3; have z7 := cell_keep HB3.out Hq2.out Hc0.out; clear hb3))
                | (at_builtin; refine wpList_append_name rfl (.tmp 43) (.tmp 48) rfl w2.heap.size _ HBf.out.size x Hsz.out _ _ rfl HOf.out Hln.out rfl ?_; intro v' w5 ho5 hb5; have Ho5 := Lib.hid ho5; have HB5 := Lib.hid (hb5 _ HBf.out); clear ho5 hb5))
              refine ⟨⟨k + 1, by omega, by go_num, ?_⟩, by simp [intOf]; omega⟩
              rw [Hfl.out, HF1.out, HF2.out]
              exact ⟨Ho5.out, HB5.out⟩
            | false =>
              have HF1 := Lib.hid hF1; have HF2 := Lib.hid hF2
              rw [hF1] at hg1
              clear hF1 hF2 hR2
              go_wp2_with (first
                | ((with_reducible refine Lex.at_finK ?_); refine LexK.finE_on (by kernel_rfl) (by repeat first | exact LexK.finL_nil | refine LexK.finL_none rfl ?_ | refine LexK.finL_skip (by decide +kernel) ?_) ?_)
                | ((with_reducible refine Lex.at_region ?_); refine LexK.wp_region_lexE (fun b => b < wb.heap.size) (by kernel_rfl) (by decide +kernel) ?_)
                | ((with_reducible refine Lex.at_wpX ?_); with_reducible refine LexK.wpX_plain (by decide +kernel) ?_)
                | ((with_reducible refine Lex.at_wpX ?_); with_reducible refine LexK.wpX_call ?_)
                | ((with_reducible refine Lex.at_wpX ?_); with_reducible refine LexK.wpX_nil ?_)
                | ((with_reducible refine Lex.at_ext ?_); first
                    | with_reducible refine LexK.ext_on hex4.out ?_
                    | with_reducible refine LexK.ext_on hex3.out ?_
                    | refine LexK.ext_on (LexK.Ext.refl _) ?_)
                | ((with_reducible refine at_load ?_); first
                    | refine wpList_load_row rfl 25 (.tmp 2) rfl _ rfl _ _ (0, 0) _ Hr11.out rfl rfl (by kernel_rfl) ?_
                    | refine wpList_load_row rfl 25 (.tmp 3) rfl _ rfl _ _ (0, 0) _ r13 rfl rfl (by kernel_rfl) ?_)
                | (go_at_call 18; first
                    | (refine hg1.mono ?_; rintro e w3 ⟨rfl, hb3⟩; have Hl3 := Lib.hid (Nat.le_trans Hl11.out (show wr.drew.heap.size ≤ w3.heap.size from hb3.size)); have hex3 := Lib.hid (show LexK.Ext (fun b => b < wb.heap.size) wr.drew w3 from ext_lt (hb3.mono Hl11.out)); have HO3 := Lib.hid ((OS.drew Hoi.out.own).below hb3); have HB3 := Lib.hid (Hoi.out.below.drew.trans (hb3.mono Hoi.out.below.size)); have HOf := HO3; have HBf := HB3; have z7 := cell_keep HB3.out Hq2.out Hc0.out; clear hb3))
                | (at_builtin; refine wpList_append_name rfl (.tmp 43) (.tmp 48) rfl w2.heap.size _ HBf.out.size x Hsz.out _ _ rfl HOf.out Hln.out rfl ?_; intro v' w5 ho5 hb5; have Ho5 := Lib.hid ho5; have HB5 := Lib.hid (hb5 _ HBf.out); clear ho5 hb5))
              refine ⟨⟨k + 1, by omega, by go_num, ?_⟩, by simp [intOf]; omega⟩
              rw [Hfl.out, HF1.out, HF2.out]
              exact ⟨Ho5.out, HB5.out⟩
          | false =>
            cases hF2 : F2 x with
            | true =>
              have HF1 := Lib.hid hF1; have HF2 := Lib.hid hF2
              rw [hF1] at hg1
              clear hF1 hF2 hR2
              go_wp2_with (first
                | ((with_reducible refine Lex.at_finK ?_); refine LexK.finE_on (by kernel_rfl) (by repeat first | exact LexK.finL_nil | refine LexK.finL_none rfl ?_ | refine LexK.finL_skip (by decide +kernel) ?_) ?_)
                | ((with_reducible refine Lex.at_region ?_); refine LexK.wp_region_lexE (fun b => b < wb.heap.size) (by kernel_rfl) (by decide +kernel) ?_)
                | ((with_reducible refine Lex.at_wpX ?_); with_reducible refine LexK.wpX_plain (by decide +kernel) ?_)
                | ((with_reducible refine Lex.at_wpX ?_); with_reducible refine LexK.wpX_call ?_)
                | ((with_reducible refine Lex.at_wpX ?_); with_reducible refine LexK.wpX_nil ?_)
                | ((with_reducible refine Lex.at_ext ?_); first
                    | with_reducible refine LexK.ext_on hex4.out ?_
                    | with_reducible refine LexK.ext_on hex3.out ?_
                    | refine LexK.ext_on (LexK.Ext.refl _) ?_)
                | ((with_reducible refine at_load ?_); first
                    | refine wpList_load_row rfl 25 (.tmp 2) rfl _ rfl _ _ (0, 0) _ Hr11.out rfl rfl (by kernel_rfl) ?_
                    | refine wpList_load_row rfl 25 (.tmp 3) rfl _ rfl _ _ (0, 0) _ r13 rfl rfl (by kernel_rfl) ?_)
                | (go_at_call 18; first
                    | (refine hg2.mono ?_; rintro e w4 ⟨rfl, hb4⟩; have Hb4 := Lib.hid hb4; have hex4 := Lib.hid (show LexK.Ext (fun b => b < wb.heap.size) w3 w4 from ext_lt (hb4.mono Hl3.out)); have HOf := Lib.hid (HO3.out.below hb4); have HBf := Lib.hid (HB3.out.trans (hb4.mono HB3.out.size)); have z8 := cell_keep HBf.out Hq2.out Hc0.out; clear hb4)
                    | (refine hg1.mono ?_; rintro e w3 ⟨rfl, hb3⟩; have Hl3 := Lib.hid (Nat.le_trans Hl11.out (show wr.drew.heap.size ≤ w3.heap.size from hb3.size)); have hex3 := Lib.hid (show LexK.Ext (fun b => b < wb.heap.size) wr.drew w3 from ext_lt (hb3.mono Hl11.out)); have HO3 := Lib.hid ((OS.drew Hoi.out.own).below hb3); have HB3 := Lib.hid (Hoi.out.below.drew.trans (hb3.mono Hoi.out.below.size)); have hg2 := G2.out x w3 (HSt2.out.below hb3); rw [HF2.out] at hg2; have r13 := row_keep HB3.out Hl12.out Hr12.out; have z5 : w3.cell? ⟨w.heap.size + 1, 0, none⟩ = some (.bool false) := cell_of_row _ _ _ _ _ _ r13; have z6 : w3.cell? ⟨w.heap.size + 1, 1, none⟩ = some (.slice p2 L2.length cap2) := cell_of_row _ _ _ _ _ _ r13; have z7 := cell_keep HB3.out Hq2.out Hc0.out; clear hb3))
                | (at_builtin; refine wpList_append_name rfl (.tmp 43) (.tmp 48) rfl w2.heap.size _ HBf.out.size x Hsz.out _ _ rfl HOf.out Hln.out rfl ?_; intro v' w5 ho5 hb5; have Ho5 := Lib.hid ho5; have HB5 := Lib.hid (hb5 _ HBf.out); clear ho5 hb5))
              refine ⟨⟨k + 1, by omega, by go_num, ?_⟩, by simp [intOf]; omega⟩
              rw [Hfl.out, HF1.out, HF2.out]
              exact ⟨Ho5.out, HB5.out⟩
            | false =>
              have HF1 := Lib.hid hF1; have HF2 := Lib.hid hF2
              rw [hF1] at hg1
              clear hF1 hF2 hR2
              go_wp2_with (first
                | ((with_reducible refine Lex.at_finK ?_); refine LexK.finE_on (by kernel_rfl) (by repeat first | exact LexK.finL_nil | refine LexK.finL_none rfl ?_ | refine LexK.finL_skip (by decide +kernel) ?_) ?_)
                | ((with_reducible refine Lex.at_region ?_); refine LexK.wp_region_lexE (fun b => b < wb.heap.size) (by kernel_rfl) (by decide +kernel) ?_)
                | ((with_reducible refine Lex.at_wpX ?_); with_reducible refine LexK.wpX_plain (by decide +kernel) ?_)
                | ((with_reducible refine Lex.at_wpX ?_); with_reducible refine LexK.wpX_call ?_)
                | ((with_reducible refine Lex.at_wpX ?_); with_reducible refine LexK.wpX_nil ?_)
                | ((with_reducible refine Lex.at_ext ?_); first
                    | with_reducible refine LexK.ext_on hex4.out ?_
                    | with_reducible refine LexK.ext_on hex3.out ?_
                    | refine LexK.ext_on (LexK.Ext.refl _) ?_)
                | ((with_reducible refine at_load ?_); first
                    | refine wpList_load_row rfl 25 (.tmp 2) rfl _ rfl _ _ (0, 0) _ Hr11.out rfl rfl (by kernel_rfl) ?_
                    | refine wpList_load_row rfl 25 (.tmp 3) rfl _ rfl _ _ (0, 0) _ r13 rfl rfl (by kernel_rfl) ?_)
                | (go_at_call 18; first
                    | (refine hg2.mono ?_; rintro e w4 ⟨rfl, hb4⟩; have Hb4 := Lib.hid hb4; have hex4 := Lib.hid (show LexK.Ext (fun b => b < wb.heap.size) w3 w4 from ext_lt (hb4.mono Hl3.out)); have HOf := Lib.hid (HO3.out.below hb4); have HBf := Lib.hid (HB3.out.trans (hb4.mono HB3.out.size)); have z8 := cell_keep HBf.out Hq2.out Hc0.out; clear hb4)
                    | (refine hg1.mono ?_; rintro e w3 ⟨rfl, hb3⟩; have Hl3 := Lib.hid (Nat.le_trans Hl11.out (show wr.drew.heap.size ≤ w3.heap.size from hb3.size)); have hex3 := Lib.hid (show LexK.Ext (fun b => b < wb.heap.size) wr.drew w3 from ext_lt (hb3.mono Hl11.out)); have HO3 := Lib.hid ((OS.drew Hoi.out.own).below hb3); have HB3 := Lib.hid (Hoi.out.below.drew.trans (hb3.mono Hoi.out.below.size)); have hg2 := G2.out x w3 (HSt2.out.below hb3); rw [HF2.out] at hg2; have r13 := row_keep HB3.out Hl12.out Hr12.out; have z5 : w3.cell? ⟨w.heap.size + 1, 0, none⟩ = some (.bool false) := cell_of_row _ _ _ _ _ _ r13; have z6 : w3.cell? ⟨w.heap.size + 1, 1, none⟩ = some (.slice p2 L2.length cap2) := cell_of_row _ _ _ _ _ _ r13; have z7 := cell_keep HB3.out Hq2.out Hc0.out; clear hb3)))
              refine ⟨⟨k + 1, by omega, by go_num, ?_⟩, by simp [intOf]; omega⟩
              rw [Hfl.out, HF1.out, HF2.out]
              exact ⟨by simpa using HOf.out, HBf.out⟩
        · obtain rfl : k = A.length := by omega
          rw [List.take_length] at Hoi
          have hln : (fl F1 F2 false A).length ≤ 100000 := Nat.le_trans (fl_len _ _ _ _) hal
          generalize fl F1 F2 false A = M at *
          obtain ⟨p1', cap1', rfl, _⟩ := Hoi.out.own.cut
          have hmk := makeNames_any false p1' cap1' M hln wr Hoi.out.own.sl
          have Hb6 := Lib.hid (Hb2.out.trans (Hoi.out.below.mono Hb2.out.size))
          have Hr6 := Lib.hid (row_keep Hb6.out Hlt2.out Hr2.out)
          have Hl6 := Lib.hid (Nat.le_trans Hlt2.out Hb6.out.size)
          go_wp2_with (first
            | (go_at_call 9; refine hmk.mono ?_; rintro e w6 ⟨p6, cap6, rfl, hs6, hlo6, hb6⟩; have Hs6 := Lib.hid hs6; have Hlo := Lib.hid hlo6; have Hb7 := Lib.hid (Hb6.out.trans (hb6.mono Hb6.out.size)); have Hr7 := Lib.hid (row_keep hb6 Hl6.out Hr6.out); clear hs6 hlo6 hb6)
            | ((with_reducible refine at_store ?_); refine wpList_store_row rfl 25 (.tmp 4) (.tmp 52) rfl _ _ rfl rfl _ _ Hr7.out (by kernel_rfl) (by kernel_rfl) (by kernel_rfl) ?_))
          exact bodyPost_ret (results_cell_row rfl _ _ (w.heap.size + 2) 25 _ (0, 0) _ rfl (setRow_heap _ _ _ _ _ _ Hr7.out) rfl rfl (by kernel_rfl)) rfl
            ⟨p6, cap6, rfl, Hs6.out.setRow (fun a h1 h2 => by have := Hlo.out a h1 h2; have := Hl6.out; omega) _, fun a h1 h2 => by have := Hlo.out a h1 h2; have := Hl6.out; omega, below_setRow (Hb0.out.trans (Hb7.out.mono Hb0.out.size)) (by omega) _⟩
end Go.Proofs.Ytejiagmfinhjbaa
