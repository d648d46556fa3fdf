/-
  Walks: Contains, HasName, Valid, ValidNames.
-/
import Derived.Test.YtejiagmfinhjbaaNp
namespace Go.Proofs.Ytejiagmfinhjbaa
open Go.RowKit Go.Ident Go.Names

theorem contains_any (p : Option Addr) (cap : Nat) (L : List Nm) (x : Nm) (hl : L.length ≤ 1000000) (w : World) (hS : SL w p L) :
    Calls Try.prog 40 #[.slice p L.length cap, .string (toB x)] w fun e w' => e = .returned (.bool (decide (x ∈ L))) ∧ w' = w := by
  by_cases hn : L = []
  · subst hn
    refine (Try.slices_Contains_string_empty p cap (toB x) w).mono ?_
    rintro e w1 ⟨rfl, h⟩
    exact ⟨by simp, h⟩
  · have hpos : 0 < L.length := List.length_pos_iff.2 hn
    obtain ⟨a, o, rfl, ha, _⟩ := hS.cell 0 hpos
    refine (Try.slices_Contains_string a o L.length cap (L.map toB) (toB x) w (by simp) (by omega) hS.zs).mono ?_
    rintro e w1 ⟨rfl, h⟩
    refine ⟨?_, h⟩
    have : Lib.containsS ((L.map toB).take L.length) (toB x) = decide (x ∈ L) := by
      rw [List.take_of_length_le (by simp)]
      cases hd : decide (x ∈ L) with
      | true =>
        rw [Lib.containsS_iff]
        exact List.mem_map.2 ⟨x, by simpa using hd, rfl⟩
      | false =>
        cases hc : Lib.containsS (L.map toB) (toB x) with
        | false => rfl
        | true =>
          rw [Lib.containsS_iff] at hc
          obtain ⟨y, hy, he⟩ := List.mem_map.1 hc
          have : y = x := (toB_eq y x).1 he
          subst this
          simp at hd
          exact absurd hy hd
    rw [this]
theorem among_names (p : Option Addr) (cap : Nat) (L : List Nm) (x : Nm) (hl : L.length ≤ 1000000) (w : World) (hS : SL w p L) :
    Calls Try.prog 39 #[.slice p L.length cap, .string (toB x)] w fun e w' => e = .returned (.bool (decide (x ∈ L))) ∧ w' = w := by
  have := among_any p cap (L.map toB) (toB x) w hS.strs (by simp; omega)
  rw [bys_toB] at this
  rw [List.length_map] at this
  exact this
set_option maxRecDepth 100000 in
set_option maxHeartbeats 8000000 in
theorem contains20_any (c : Bool) (p : Option Addr) (cap : Nat) (L : List Nm) (x : Nm) (hl : L.length ≤ 1000000) (w : World) (hS : SL w p L) :
    Calls Try.prog 20 #[.agg #[.bool c, .slice p L.length cap], .string (toB x)] w fun e w' => e = .returned (.bool (has c L x)) ∧ Below w.heap.size w w' := by
  have hb0 : Below w.heap.size w (w.alloc (.cells #[.bool c, .slice p L.length cap] 25)) := (Below.refl _ _).alloc (Nat.le_refl _) _
  have hcc := contains_any p cap L x hl _ (hS.below hb0).drew
  have hr0 : (w.alloc (.cells #[.bool c, .slice p L.length cap] 25)).heap[w.heap.size]? = some (.cells #[.bool c, .slice p L.length cap] 25) := heap_alloc_new _ _
  have hs0 : (w.alloc (.cells #[.bool c, .slice p L.length cap] 25)).heap.size = w.heap.size + 1 := by simp
  have Hb0 := Lib.hid hb0; clear hb0 hl hS
  unfold has
  generalize decide (x ∈ L) = r at *
  go_enter Try.func20, Try.ntmps20
  go_upto_region 1 with fail
  generalize w.alloc (.cells #[.bool c, .slice p L.length cap] 25) = wb at *
  have x0 : wb.cell? ⟨w.heap.size, 0, none⟩ = some (.bool c) := cell_of_row _ _ _ _ _ _ hr0
  have x1 : wb.cell? ⟨w.heap.size, 1, none⟩ = some (.slice p L.length cap) := cell_of_row _ _ _ _ _ _ hr0
  have z0 := Lib.hid (show wb.drew.cell? ⟨w.heap.size, 0, none⟩ = some (.bool c) from x0)
  have Hlt := Lib.hid (show w.heap.size < wb.heap.size by omega)
  clear hr0 hs0
  go_wp2_with (first
    | ((with_reducible refine Lex.at_finK ?_); refine LexK.finE_on (by kernel_rfl) (by repeat first | exact LexK.finL_nil | refine LexK.finL_none rfl ?_ | refine LexK.finL_skip (by decide +kernel) ?_ | refine LexK.finL_take rfl Hlt.out z0.out ?_) ?_)
    | ((with_reducible refine Lex.at_region ?_); refine LexK.wp_region_lexE (fun b => b < wb.heap.size) (by kernel_rfl) (by decide +kernel) ?_)
    | ((with_reducible refine Lex.at_wpX ?_); with_reducible refine LexK.wpX_plain (by decide +kernel) ?_)
    | ((with_reducible refine Lex.at_wpX ?_); with_reducible refine LexK.wpX_call ?_)
    | ((with_reducible refine Lex.at_wpX ?_); with_reducible refine LexK.wpX_nil ?_)
    | ((with_reducible refine Lex.at_ext ?_); with_reducible refine LexK.ext_on (LexK.Ext.refl _) ?_)
    | (go_at_call 40; refine hcc.mono ?_; rintro e w1 ⟨rfl, hw1⟩; subst hw1))
  go_ret
  exact ⟨rfl, Hb0.out.trans (Below.refl _ wb).drew⟩
set_option maxRecDepth 100000 in
set_option maxHeartbeats 8000000 in
theorem hasName_any (c : Bool) (p : Option Addr) (cap : Nat) (L : List Nm) (x : Nm) (hl : L.length ≤ 1000000) (w : World) (hS : SL w p L) :
    Calls Try.prog 18 #[.agg #[.bool c, .slice p L.length cap], .string (toB x)] w fun e w' => e = .returned (.bool (has c L x)) ∧ Below w.heap.size w w' := by
  have hb0 : Below w.heap.size w (w.alloc (.cells #[.bool c, .slice p L.length cap] 25)) := (Below.refl _ _).alloc (Nat.le_refl _) _
  have hcc := among_names p cap L x hl _ (hS.below hb0).drew
  have hr0 : (w.alloc (.cells #[.bool c, .slice p L.length cap] 25)).heap[w.heap.size]? = some (.cells #[.bool c, .slice p L.length cap] 25) := heap_alloc_new _ _
  have hs0 : (w.alloc (.cells #[.bool c, .slice p L.length cap] 25)).heap.size = w.heap.size + 1 := by simp
  have Hb0 := Lib.hid hb0; clear hb0 hl hS
  unfold has
  generalize decide (x ∈ L) = r at *
  go_enter Try.func18, Try.ntmps18
  go_upto_region 1 with fail
  generalize w.alloc (.cells #[.bool c, .slice p L.length cap] 25) = wb at *
  have x0 : wb.cell? ⟨w.heap.size, 0, none⟩ = some (.bool c) := cell_of_row _ _ _ _ _ _ hr0
  have x1 : wb.cell? ⟨w.heap.size, 1, none⟩ = some (.slice p L.length cap) := cell_of_row _ _ _ _ _ _ hr0
  have z0 := Lib.hid (show wb.drew.cell? ⟨w.heap.size, 0, none⟩ = some (.bool c) from x0)
  have Hlt := Lib.hid (show w.heap.size < wb.heap.size by omega)
  clear hr0 hs0
  go_wp2_with (first
    | ((with_reducible refine Lex.at_finK ?_); refine LexK.finE_on (by kernel_rfl) (by repeat first | exact LexK.finL_nil | refine LexK.finL_none rfl ?_ | refine LexK.finL_skip (by decide +kernel) ?_ | refine LexK.finL_take rfl Hlt.out z0.out ?_) ?_)
    | ((with_reducible refine Lex.at_region ?_); refine LexK.wp_region_lexE (fun b => b < wb.heap.size) (by kernel_rfl) (by decide +kernel) ?_)
    | ((with_reducible refine Lex.at_wpX ?_); with_reducible refine LexK.wpX_plain (by decide +kernel) ?_)
    | ((with_reducible refine Lex.at_wpX ?_); with_reducible refine LexK.wpX_call ?_)
    | ((with_reducible refine Lex.at_wpX ?_); with_reducible refine LexK.wpX_nil ?_)
    | ((with_reducible refine Lex.at_ext ?_); with_reducible refine LexK.ext_on (LexK.Ext.refl _) ?_)
    | (go_at_call 39; refine hcc.mono ?_; rintro e w1 ⟨rfl, hw1⟩; subst hw1))
  go_ret
  exact ⟨rfl, Hb0.out.trans (Below.refl _ wb).drew⟩
/-- Whether a list is ascending. -/
def ascD (L : List Nm) : Bool := decide (L.Pairwise (· < ·))
theorem ascD_iff (L : List Nm) : ascD L = true ↔ Asc L := by unfold ascD Asc; exact decide_eq_true_iff
theorem asc_one (L : List Nm) : ascD (L.take 1) = true := by
  rw [ascD_iff]
  cases L with
  | nil => exact List.Pairwise.nil
  | cons a r => simp [Asc]
theorem asc_step (L : List Nm) (k : Nat) (hk : 1 ≤ k) (hlt : k < L.length) : (ascD (L.take k) = true → L[k - 1] < L[k] → ascD (L.take (k + 1)) = true) ∧ (¬ L[k - 1] < L[k] → ascD L = false) := by
  constructor
  · intro h1 h2
    rw [ascD_iff] at h1 ⊢
    unfold Asc at *
    rw [List.take_succ_eq_append_getElem hlt, List.pairwise_append]
    refine ⟨h1, by simp, fun x hx y hy => ?_⟩
    rw [List.mem_singleton] at hy; subst hy
    obtain ⟨j, hj, rfl⟩ := List.getElem_of_mem hx
    rw [List.getElem_take]
    have hjk : j < k := by simp at hj; omega
    by_cases he : j = k - 1
    · subst he; exact h2
    · rw [List.pairwise_iff_getElem] at h1
      have := h1 j (k - 1) hj (by simp; omega) (by omega)
      rw [List.getElem_take, List.getElem_take] at this
      exact lt_tr this h2
  · intro h
    cases hd : ascD L with
    | false => rfl
    | true =>
      rw [ascD_iff] at hd
      unfold Asc at hd
      rw [List.pairwise_iff_getElem] at hd
      exact absurd (hd (k - 1) k (by omega) hlt (by omega)) h
theorem ascD_mono (L : List Nm) (k : Nat) (h : L.length ≤ k) : L.take k = L := List.take_of_length_le h
theorem run_geq_string (a b : ByteArray) (w : World) : (binOp .geq 9 (.string a) (.string b)).run Try.prog w = .ok (.bool (!Op.bytesLess a.toList b.toList)) w := by
  simp [binOp, Op.stringOp]
set_option maxRecDepth 100000 in
set_option maxHeartbeats 8000000 in
theorem valid_any (c : Bool) (p : Option Addr) (cap : Nat) (L : List Nm) (hl : L.length ≤ 1000000) (w : World) (hS : SL w p L) :
    Calls Try.prog 24 #[.agg #[.bool c, .slice p L.length cap]] w fun e w' => e = .returned (.bool (ascD L)) ∧ Below w.heap.size w w' := by
  have hb0 : Below w.heap.size w (w.alloc (.cells #[.bool c, .slice p L.length cap] 25)) := (Below.refl _ _).alloc (Nat.le_refl _) _
  have hr0 : (w.alloc (.cells #[.bool c, .slice p L.length cap] 25)).heap[w.heap.size]? = some (.cells #[.bool c, .slice p L.length cap] 25) := heap_alloc_new _ _
  have hS' := hS.below hb0
  have HS := Lib.hid hS'; have Hb0 := Lib.hid hb0
  clear hb0 hS hS'
  obtain ⟨R, hR⟩ : ∃ R, R = ascD L := ⟨_, rfl⟩
  rw [← hR]
  have HR := Lib.hid hR; clear hR
  have hgeq := run_geq_string
  go_enter Try.func24, Try.ntmps24
  go_upto_region 1 with fail
  generalize w.alloc (.cells #[.bool c, .slice p L.length cap] 25) = wb at *
  have x1 : wb.cell? ⟨w.heap.size, 1, none⟩ = some (.slice p L.length cap) := cell_of_row _ _ _ _ _ _ hr0
  have Hlt := Lib.hid (show w.heap.size < wb.heap.size from heap_lt hr0)
  clear hr0
  go_wp2
  go_loopw [3] (fun i wr => ∃ k : Nat, 1 ≤ k ∧ (k ≤ L.length ∨ k = 1) ∧ i = .int .i64 k ∧ ascD (L.take k) = true ∧ Below wb.heap.size wb wr) (fun i _ => L.length + 1 - (intOf i).toNat)
  case atStart => exact ⟨1, by omega, by omega, rfl, asc_one L, Below.refl _ _⟩
  case round =>
    obtain ⟨k, hk1, hk2, rfl, ha, hbw⟩ := hrel
    have Ha := Lib.hid ha; clear ha
    have Hbw := Lib.hid hbw; clear hbw
    have x2 : wr.cell? ⟨w.heap.size, 1, none⟩ = some (.slice p L.length cap) := cell_keep Hbw.out Hlt.out x1
    by_cases hlt : k < L.length
    · obtain ⟨a, o, rfl, ha, c1⟩ := (HS.out.below Hbw.out).cell k hlt
      obtain ⟨a', o', he, ha', c0⟩ := (HS.out.below Hbw.out).cell (k - 1) (by omega)
      cases he
      have hst := asc_step L k hk1 hlt
      have Hst := Lib.hid hst; clear hst
      generalize L[k] = y at *
      generalize L[k - 1] = x at *
      clear ha ha'
      have hbl : Op.bytesLess (toB x).toList (toB y).toList = decide (x < y) := by rw [toB_toList, toB_toList, bl_dec]
      generalize toB x = sx at *
      generalize toB y = sy at *
      cases hd : decide (x < y) with
      | true =>
        rw [hd] at hbl
        have Hd := Lib.hid (show x < y by simpa using hd)
        clear hd
        go_wp2_with (first
          | ((with_reducible refine Lex.at_region ?_); with_reducible refine Lex.wp_region_lex (by kernel_rfl) (by decide +kernel) ?_)
          | ((with_reducible refine Lex.at_fin ?_); with_reducible refine Lex.fin_on (by kernel_rfl) ?_))
        exact ⟨⟨k + 1, by omega, by omega, by go_num, Hst.out.1 Ha.out Hd.out, Hbw.out.drew⟩, by simp [intOf]; omega⟩
      | false =>
        rw [hd] at hbl
        have Hd := Lib.hid (show ¬ x < y by simpa using hd)
        clear hd
        go_wp2_with (first
          | ((with_reducible refine Lex.at_region ?_); with_reducible refine Lex.wp_region_lex (by kernel_rfl) (by decide +kernel) ?_)
          | ((with_reducible refine Lex.at_fin ?_); with_reducible refine Lex.fin_on (by kernel_rfl) ?_))
        go_ret
        exact ⟨by rw [HR.out, Hst.out.2 Hd.out]; rfl, Hb0.out.trans (Hbw.out.drew.mono Hb0.out.size)⟩
    · have hall : ascD L = true := by have := Ha.out; rw [ascD_mono L k (by omega)] at this; exact this
      have Hall := Lib.hid hall; clear hall
      go_wp2
      go_ret
      exact ⟨by rw [HR.out, Hall.out]; rfl, Hb0.out.trans (Hbw.out.mono Hb0.out.size)⟩
set_option maxRecDepth 100000 in
set_option maxHeartbeats 8000000 in
theorem refValid_any (c : Bool) (p : Option Addr) (cap : Nat) (L : List Nm) (hl : L.length ≤ 1000000) (w : World) (hS : SL w p L) :
    Calls Try.prog 25 #[.agg #[.bool c, .slice p L.length cap]] w fun e w' => e = .returned (.bool (ascD L)) ∧ Below w.heap.size w w' := by
  have hb0 : Below w.heap.size w (w.alloc (.cells #[.bool c, .slice p L.length cap] 25)) := (Below.refl _ _).alloc (Nat.le_refl _) _
  have hr0 : (w.alloc (.cells #[.bool c, .slice p L.length cap] 25)).heap[w.heap.size]? = some (.cells #[.bool c, .slice p L.length cap] 25) := heap_alloc_new _ _
  have hS' := hS.below hb0
  have HS := Lib.hid hS'; have Hb0 := Lib.hid hb0
  clear hb0 hS hS'
  obtain ⟨R, hR⟩ : ∃ R, R = ascD L := ⟨_, rfl⟩
  rw [← hR]
  have HR := Lib.hid hR; clear hR
  have hgeq := run_geq_string
  go_enter Try.func25, Try.ntmps25
  go_upto_region 1 with fail
  generalize w.alloc (.cells #[.bool c, .slice p L.length cap] 25) = wb at *
  have x1 : wb.cell? ⟨w.heap.size, 1, none⟩ = some (.slice p L.length cap) := cell_of_row _ _ _ _ _ _ hr0
  have Hlt := Lib.hid (show w.heap.size < wb.heap.size from heap_lt hr0)
  clear hr0
  go_wp2
  go_loopw [3] (fun i wr => ∃ k : Nat, 1 ≤ k ∧ (k ≤ L.length ∨ k = 1) ∧ i = .int .i64 k ∧ ascD (L.take k) = true ∧ Below wb.heap.size wb wr) (fun i _ => L.length + 1 - (intOf i).toNat)
  case atStart => exact ⟨1, by omega, by omega, rfl, asc_one L, Below.refl _ _⟩
  case round =>
    obtain ⟨k, hk1, hk2, rfl, ha, hbw⟩ := hrel
    have Ha := Lib.hid ha; clear ha
    have Hbw := Lib.hid hbw; clear hbw
    have x2 : wr.cell? ⟨w.heap.size, 1, none⟩ = some (.slice p L.length cap) := cell_keep Hbw.out Hlt.out x1
    by_cases hlt : k < L.length
    · obtain ⟨a, o, rfl, ha, c1⟩ := (HS.out.below Hbw.out).cell k hlt
      obtain ⟨a', o', he, ha', c0⟩ := (HS.out.below Hbw.out).cell (k - 1) (by omega)
      cases he
      have hst := asc_step L k hk1 hlt
      have Hst := Lib.hid hst; clear hst
      generalize L[k] = y at *
      generalize L[k - 1] = x at *
      clear ha ha'
      have hbl : Op.bytesLess (toB x).toList (toB y).toList = decide (x < y) := by rw [toB_toList, toB_toList, bl_dec]
      generalize toB x = sx at *
      generalize toB y = sy at *
      cases hd : decide (x < y) with
      | true =>
        rw [hd] at hbl
        have Hd := Lib.hid (show x < y by simpa using hd)
        clear hd
        go_wp2_with (first
          | ((with_reducible refine Lex.at_region ?_); with_reducible refine Lex.wp_region_lex (by kernel_rfl) (by decide +kernel) ?_)
          | ((with_reducible refine Lex.at_fin ?_); with_reducible refine Lex.fin_on (by kernel_rfl) ?_))
        exact ⟨⟨k + 1, by omega, by omega, by go_num, Hst.out.1 Ha.out Hd.out, Hbw.out.drew⟩, by simp [intOf]; omega⟩
      | false =>
        rw [hd] at hbl
        have Hd := Lib.hid (show ¬ x < y by simpa using hd)
        clear hd
        go_wp2_with (first
          | ((with_reducible refine Lex.at_region ?_); with_reducible refine Lex.wp_region_lex (by kernel_rfl) (by decide +kernel) ?_)
          | ((with_reducible refine Lex.at_fin ?_); with_reducible refine Lex.fin_on (by kernel_rfl) ?_))
        go_ret
        exact ⟨by rw [HR.out, Hst.out.2 Hd.out]; rfl, Hb0.out.trans (Hbw.out.drew.mono Hb0.out.size)⟩
    · have hall : ascD L = true := by have := Ha.out; rw [ascD_mono L k (by omega)] at this; exact this
      have Hall := Lib.hid hall; clear hall
      go_wp2
      go_ret
      exact ⟨by rw [HR.out, Hall.out]; rfl, Hb0.out.trans (Hbw.out.mono Hb0.out.size)⟩
end Go.Proofs.Ytejiagmfinhjbaa
