/-
  Walks: Finite, Cofinite, Complement, Contains, Valid.
-/
import Derived.Test.YtejiagmfinhjbaaNm
namespace Go.Proofs.Ytejiagmfinhjbaa
open Go.RowKit Go.Ident Go.Names

theorem SL.setRow {w : World} {p : Option Addr} {L : List Nm} {n : Nat} (h : SL w p L) (hn : ∀ a, p = some a → 0 < L.length → a.block ≠ n) (cs : Array Value) : SL (w.setRow n cs) p L := by
  refine ⟨fun i hi => ?_, h.size⟩
  obtain ⟨a, o, h1, h2, h3⟩ := h.cell i hi
  have hne := hn _ h1 (by omega)
  refine ⟨a, o, h1, by rw [size_setRow]; exact h2, ?_⟩
  rw [← h3]
  exact World.cell?_of_block (setRow_other w n a cs (fun e => hne e))
theorem field45_0 (c : Bool) (p : Option Addr) (n cap : Nat) (w : World) : (Instr.field 45 (.agg #[.bool c, .slice p n cap]) 0).run Try.prog w = .ok (.agg #[.bool c, .slice p n cap]) w := by kernel_rfl
set_option maxRecDepth 100000 in
set_option maxHeartbeats 8000000 in
theorem finite_any (p : Option Addr) (cap : Nat) (L : List Nm) (hl : L.length ≤ 1000000) (w : World) (hS : SL w p L) :
    Calls Try.prog 22 #[.slice p L.length cap] w (NA w false (nrm L)) := by
  have hb0 : Below w.heap.size w (w.alloc (.cells #[.bool false, .slice none 0 0] 25)) := (Below.refl _ _).alloc (Nat.le_refl _) _
  have hc := normalize_any false p cap L hl _ (hS.below hb0)
  have hr0 : (w.alloc (.cells #[.bool false, .slice none 0 0] 25)).heap[w.heap.size]? = some (.cells #[.bool false, .slice none 0 0] 25) := heap_alloc_new _ _
  have hs0 : (w.alloc (.cells #[.bool false, .slice none 0 0] 25)).heap.size = w.heap.size + 1 := by simp
  have hf := field45_0
  have Hb0 := Lib.hid hb0; clear hb0 hl hS
  go_enter Try.func22, Try.ntmps22
  go_upto_region 1 with fail
  generalize w.alloc (.cells #[.bool false, .slice none 0 0] 25) = wb at *
  have Hr0 := Lib.hid hr0
  have Hlt := Lib.hid (show w.heap.size < wb.heap.size by omega)
  clear hr0 hs0
  go_wp2_with (first
    | (go_at_call 29; refine hc.mono ?_; rintro e w1 ⟨p1, cap1, rfl, hs1, hlo1, hb1⟩; have Hs1 := Lib.hid hs1; have Hlo1 := Lib.hid hlo1; have Hb1 := Lib.hid hb1; have Hr1 := Lib.hid (row_keep hb1 Hlt.out Hr0.out); clear hs1 hlo1 hb1)
    | ((with_reducible refine at_store ?_); refine wpList_store_row rfl 25 (.tmp 2) (.tmp 6) rfl _ _ rfl rfl _ _ Hr1.out (by kernel_rfl) (by kernel_rfl) (by kernel_rfl) ?_))
  exact bodyPost_ret (results_cell_row rfl _ _ w.heap.size 25 _ (0, 0) _ rfl (setRow_heap _ _ _ _ _ _ Hr1.out) rfl rfl (by kernel_rfl)) rfl
    ⟨p1, _, rfl, Hs1.out.setRow (fun a h1 h2 => by have := Hlo1.out a h1 h2; have := Hlt.out; omega) _, fun a h1 h2 => Nat.le_trans (Nat.le_of_lt Hlt.out) (Hlo1.out a h1 h2), below_setRow (Hb0.out.trans (Hb1.out.mono (Nat.le_of_lt Hlt.out))) (by omega) _⟩
set_option maxRecDepth 100000 in
set_option maxHeartbeats 8000000 in
theorem cofinite_any (p : Option Addr) (cap : Nat) (L : List Nm) (hl : L.length ≤ 1000000) (w : World) (hS : SL w p L) :
    Calls Try.prog 23 #[.slice p L.length cap] w (NA w true (nrm L)) := by
  have hb0 : Below w.heap.size w (w.alloc (.cells #[.bool false, .slice none 0 0] 25)) := (Below.refl _ _).alloc (Nat.le_refl _) _
  have hc := normalize_any true p cap L hl _ (hS.below hb0)
  have hr0 : (w.alloc (.cells #[.bool false, .slice none 0 0] 25)).heap[w.heap.size]? = some (.cells #[.bool false, .slice none 0 0] 25) := heap_alloc_new _ _
  have hs0 : (w.alloc (.cells #[.bool false, .slice none 0 0] 25)).heap.size = w.heap.size + 1 := by simp
  have hf := field45_0
  have Hb0 := Lib.hid hb0; clear hb0 hl hS
  go_enter Try.func23, Try.ntmps23
  go_upto_region 1 with fail
  generalize w.alloc (.cells #[.bool false, .slice none 0 0] 25) = wb at *
  have Hr0 := Lib.hid hr0
  have Hlt := Lib.hid (show w.heap.size < wb.heap.size by omega)
  clear hr0 hs0
  go_wp2_with (first
    | (go_at_call 29; refine hc.mono ?_; rintro e w1 ⟨p1, cap1, rfl, hs1, hlo1, hb1⟩; have Hs1 := Lib.hid hs1; have Hlo1 := Lib.hid hlo1; have Hb1 := Lib.hid hb1; have Hr1 := Lib.hid (row_keep hb1 Hlt.out Hr0.out); clear hs1 hlo1 hb1)
    | ((with_reducible refine at_store ?_); refine wpList_store_row rfl 25 (.tmp 2) (.tmp 6) rfl _ _ rfl rfl _ _ Hr1.out (by kernel_rfl) (by kernel_rfl) (by kernel_rfl) ?_))
  exact bodyPost_ret (results_cell_row rfl _ _ w.heap.size 25 _ (0, 0) _ rfl (setRow_heap _ _ _ _ _ _ Hr1.out) rfl rfl (by kernel_rfl)) rfl
    ⟨p1, _, rfl, Hs1.out.setRow (fun a h1 h2 => by have := Hlo1.out a h1 h2; have := Hlt.out; omega) _, fun a h1 h2 => Nat.le_trans (Nat.le_of_lt Hlt.out) (Hlo1.out a h1 h2), below_setRow (Hb0.out.trans (Hb1.out.mono (Nat.le_of_lt Hlt.out))) (by omega) _⟩
set_option maxRecDepth 100000 in
set_option maxHeartbeats 8000000 in
theorem complement_any (c : Bool) (p : Option Addr) (cap : Nat) (L : List Nm) (hl : L.length ≤ 1000000) (w : World) (hS : SL w p L) :
    Calls Try.prog 10 #[.agg #[.bool c, .slice p L.length cap]] w (NA w (!c) (nrm L)) := by
  have hb0 : Below w.heap.size w ((w.alloc (.cells #[.bool c, .slice p L.length cap] 25)).alloc (.cells #[.bool false, .slice none 0 0] 25)) := below_alloc ((Below.refl _ _).alloc (Nat.le_refl _) _) _
  have hc := normalize_any c p cap L hl _ (hS.below hb0)
  have hr0 := two_row0 w (.cells #[.bool c, .slice p L.length cap] 25) (.cells #[.bool false, .slice none 0 0] 25)
  have hr1 := two_row1 w (.cells #[.bool c, .slice p L.length cap] 25) (.cells #[.bool false, .slice none 0 0] 25)
  have hs0 : ((w.alloc (.cells #[.bool c, .slice p L.length cap] 25)).alloc (.cells #[.bool false, .slice none 0 0] 25)).heap.size = w.heap.size + 2 := by simp
  have Hb0 := Lib.hid hb0; clear hb0 hl hS
  go_enter Try.func10, Try.ntmps10
  go_upto_region 1 with fail
  generalize (w.alloc (.cells #[.bool c, .slice p L.length cap] 25)).alloc (.cells #[.bool false, .slice none 0 0] 25) = wb at *
  have Hr0 := Lib.hid hr0
  have Hr1 := Lib.hid hr1
  have Hlt := Lib.hid (show w.heap.size + 1 < wb.heap.size by omega)
  clear hr0 hr1 hs0
  go_upto_region 2 with (first
    | ((with_reducible refine at_load ?_); refine wpList_load_row rfl 25 (.tmp 1) rfl _ rfl _ _ (0, 0) _ Hr0.out rfl rfl (by kernel_rfl) ?_)
    | (go_at_call 29; refine hc.mono ?_; rintro e w1 ⟨p1, cap1, rfl, hs1, hlo1, hb1⟩; have Hs1 := Lib.hid hs1; have Hlo1 := Lib.hid hlo1; have Hb1 := Lib.hid hb1; have Hq1 := Lib.hid (row_keep hb1 Hlt.out Hr1.out); clear hs1 hlo1 hb1)
    | ((with_reducible refine at_store ?_); refine wpList_store_row rfl 45 (.tmp 3) (.tmp 5) rfl _ _ rfl rfl _ _ (heap_alloc_new _ _) (by kernel_rfl) (by kernel_rfl) (by kernel_rfl) ?_))
  have hq : ((w1.alloc (.cells #[.bool false, .slice none 0 0] 45)).setRow w1.heap.size #[.bool c, .slice p1 (nrm L).length cap1]).heap[w1.heap.size]? = some (.cells #[.bool c, .slice p1 (nrm L).length cap1] 45 (0, 0)) := setRow_heap _ _ _ _ _ _ (heap_alloc_new _ _)
  have hlt1 : w.heap.size + 1 < w1.heap.size := Nat.lt_of_lt_of_le Hlt.out Hb1.out.size
  have hq1 : ((w1.alloc (.cells #[.bool false, .slice none 0 0] 45)).setRow w1.heap.size #[.bool c, .slice p1 (nrm L).length cap1]).heap[w.heap.size + 1]? = some (.cells #[.bool false, .slice none 0 0] 25 (0, 0)) := (setRow_other _ _ _ _ (by omega)).trans ((heap_alloc_old _ _ hlt1).trans Hq1.out)
  have hb2 : Below w1.heap.size w1 ((w1.alloc (.cells #[.bool false, .slice none 0 0] 45)).setRow w1.heap.size #[.bool c, .slice p1 (nrm L).length cap1]) := below_setRow ((Below.refl _ _).alloc (Nat.le_refl _) _) (Nat.le_refl _) _
  have Hs2 := Lib.hid (Hs1.out.below hb2)
  have Hne := Lib.hid (show ∀ a, p1 = some a → 0 < (nrm L).length → a.block ≠ w1.heap.size from fun a h1 h2 => by obtain ⟨a', o', h3, h4, _⟩ := Hs1.out.cell 0 h2; rw [h1] at h3; cases h3; exact Nat.ne_of_lt h4)
  have HB2 := Lib.hid (Hb1.out.trans (hb2.mono Hb1.out.size))
  have Hlt1 := Lib.hid hlt1
  clear hb2 hlt1
  generalize (w1.alloc (.cells #[.bool false, .slice none 0 0] 45)).setRow w1.heap.size #[.bool c, .slice p1 (nrm L).length cap1] = w2 at *
  have x0 : w2.cell? ⟨w1.heap.size, 0, none⟩ = some (.bool c) := cell_of_row _ _ _ _ _ _ hq
  have f0 : w2.frozen? ⟨w1.heap.size, 0, none⟩ = false := by simp [World.frozen?, hq]
  have Hq := Lib.hid (show (w2.setCell ⟨w1.heap.size, 0, none⟩ (.bool (!c))).heap[w1.heap.size]? = some (.cells #[.bool (!c), .slice p1 (nrm L).length cap1] 45 (0, 0)) from heap_setCell_same _ _ _ _ _ _ hq)
  have Hq3 := Lib.hid (show (w2.setCell ⟨w1.heap.size, 0, none⟩ (.bool (!c))).heap[w.heap.size + 1]? = some (.cells #[.bool false, .slice none 0 0] 25 (0, 0)) from (heap_setCell_other _ _ _ _ (by have := Hlt1.out; show w.heap.size + 1 ≠ w1.heap.size; omega)).trans hq1)
  have heq := setCell_eq_setRow w2 w1.heap.size 0 _ _ _ (.bool (!c)) hq
  have Heq := Lib.hid heq
  clear hq hq1 heq
  go_wp2_with (first
    | ((with_reducible refine at_load ?_); refine wpList_load_row rfl 25 (.tmp 12) rfl _ rfl _ _ (0, 0) _ Hq.out rfl rfl (by kernel_rfl) ?_)
    | ((with_reducible refine at_store ?_); refine wpList_store_row rfl 25 (.tmp 2) (.tmp 13) rfl _ _ rfl rfl _ _ Hq3.out (by kernel_rfl) (by kernel_rfl) (by kernel_rfl) ?_))
  refine bodyPost_ret (results_cell_row rfl _ _ (w.heap.size + 1) 25 _ (0, 0) _ rfl (setRow_heap _ _ _ _ _ _ Hq3.out) rfl rfl (by kernel_rfl)) rfl
    ⟨p1, cap1, rfl, ?_, fun a h1 h2 => ?_, ?_⟩
  · rw [Heq.out]
    exact (Hs2.out.setRow Hne.out _).setRow (fun a h1 h2 => by have := Hlo1.out a h1 h2; have := Hlt.out; omega) _
  · have := Hlo1.out a h1 h2; have := Hlt.out; omega
  · rw [Heq.out]
    exact below_setRow (below_setRow (Hb0.out.trans (HB2.out.mono (by have := Hlt.out; omega))) (by have := Hlt1.out; omega) _) (by omega) _
end Go.Proofs.Ytejiagmfinhjbaa
