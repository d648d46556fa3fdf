/-
  Walks: First.
-/
import Derived.Test.YtejiagmfinhjbaaNv
namespace Go.Proofs.Ytejiagmfinhjbaa
open Go.RowKit Go.Ident Go.Names

theorem filt_all (k : Int) (L : List Nm) : bys (filt k (L.map fun x => (k, toB x))) = L := by
  unfold filt
  rw [List.filter_eq_self.2 (by intro a ha; obtain ⟨x, _, rfl⟩ := List.mem_map.1 ha; simp), List.map_map]
  exact bys_toB L
/-- What First returns. -/
def frs (K : Nat) (c : Bool) (L : List Nm) : Nm × Bool := if c = true then (fre K L, true) else bst (K : Int) L
theorem seqA_val : ∀ n : Fin 61, valK 0 (seqK 0 n.val) = true := by decide +kernel
theorem seqS_val : ∀ n : Fin 61, valK 1 (seqK 1 n.val) = true := by decide +kernel
theorem fre_val0 (L : List Nm) (hl : L.length ≤ 60) : valK 0 (fre 0 L) = true := seqA_val ⟨freN 0 L, by have := (freN_spec (kind := 0) (by omega) hl).1; omega⟩
theorem fre_val1 (L : List Nm) (hl : L.length ≤ 60) : valK 1 (fre 1 L) = true := seqS_val ⟨freN 1 L, by have := (freN_spec (kind := 1) (by omega) hl).1; omega⟩
set_option maxRecDepth 100000 in
theorem firstN_any (kind : Int) (h0 : kind ≠ 0) (h1 : kind ≠ 1) (c : Bool) (p : Option Addr) (n cap : Nat) (w : World) :
    Calls Try.prog 15 #[.agg #[.bool c, .slice p n cap], .int .i64 kind] w fun e w' => e = .returned (.tuple #[.string (toB []), .bool false]) ∧ Below w.heap.size w w' := by
  have d0 : (kind != 0) = true := by simpa using h0
  have d1 : (kind != 1) = true := by simpa using h1
  clear h0 h1
  have HB := Lib.hid (show ∀ o, Below w.heap.size w (w.alloc o) from fun o => (Below.refl w.heap.size w).alloc (Nat.le_refl _) o)
  go_enter Try.func15, Try.ntmps15
  go_wp2
  go_ret2
  exact ⟨rfl, HB.out _⟩
set_option maxRecDepth 100000 in
set_option maxHeartbeats 32000000 in
theorem first0_any (c : Bool) (p : Option Addr) (cap : Nat) (L : List Nm) (hl : L.length ≤ 60) (w : World) (hS : SL w p L) :
    Calls Try.prog 15 #[.agg #[.bool c, .slice p L.length cap], .int .i64 0] w fun e w' => e = .returned (.tuple #[.string (toB (frs 0 c L).1), .bool (frs 0 c L).2]) ∧ Below w.heap.size w w' := by
  have hb0 : Below w.heap.size w (w.alloc (.cells #[.bool c, .slice p L.length cap] 25)) := (Below.refl _ _).alloc (Nat.le_refl _) _
  have hr0 : (w.alloc (.cells #[.bool c, .slice p L.length cap] 25)).heap[w.heap.size]? = some (.cells #[.bool c, .slice p L.length cap] 25) := heap_alloc_new _ _
  have hS' := hS.below hb0
  have HS := Lib.hid hS'; have Hb0 := Lib.hid hb0
  clear hb0 hS hS'
  obtain ⟨R1, hR1⟩ : ∃ R, R = toB (frs 0 c L).1 := ⟨_, rfl⟩
  obtain ⟨R2, hR2⟩ : ∃ R, R = (frs 0 c L).2 := ⟨_, rfl⟩
  rw [← hR1, ← hR2]
  have HR1 := Lib.hid hR1; have HR2 := Lib.hid hR2; clear hR1 hR2
  go_enter Try.func15, Try.ntmps15
  go_upto_region 1 with fail
  generalize w.alloc (.cells #[.bool c, .slice p L.length cap] 25) = wb at *
  have x0 : wb.cell? ⟨w.heap.size, 0, none⟩ = some (.bool c) := cell_of_row _ _ _ _ _ _ hr0
  have x1 : wb.cell? ⟨w.heap.size, 1, none⟩ = some (.slice p L.length cap) := cell_of_row _ _ _ _ _ _ hr0
  have Hlt := Lib.hid (heap_lt hr0)
  clear hr0
  go_wp2
  go_loopw [6, 23] (fun v i wr => ∃ k : Nat, k ≤ L.length ∧ i = .int .i64 k ∧ KS wb.heap.size wr v 0 (L.take k) ∧ Below wb.heap.size wb wr) (fun _ i _ => L.length - (intOf i).toNat)
  case atStart => exact ⟨0, by omega, rfl, KS.nil _ _ _, Below.refl _ _⟩
  case round =>
    obtain ⟨k, hk, rfl, hks, hbw⟩ := hrel
    have Hks := Lib.hid hks; have Hbw := Lib.hid hbw
    clear hks hbw
    by_cases hlt : k < L.length
    · obtain ⟨a, o, rfl, ha, c0⟩ := (HS.out.below Hbw.out).cell k hlt
      have Hsz := Lib.hid (HS.out.size L[k] (List.getElem_mem hlt))
      have Htk := Lib.hid (List.take_succ_eq_append_getElem hlt)
      have Hln := Lib.hid (show (L.take k).length ≤ 1000000 by rw [List.length_take]; omega)
      generalize L[k] = x at *
      clear ha
      go_wp2_with (first
        | (at_builtin; refine wpList_append_key rfl (.tmp 27) (.tmp 31) rfl wb.heap.size _ Hbw.out.size 0 x Hsz.out _ _ rfl Hks.out Hln.out rfl ?_; intro v' w2 ho2 hb2; have Ho2 := Lib.hid ho2; have HB2 := Lib.hid (hb2 _ Hbw.out); clear ho2 hb2))
      exact ⟨⟨k + 1, by omega, by go_num, by rw [Htk.out]; exact Ho2.out, HB2.out⟩, by simp [intOf]; omega⟩
    · obtain rfl : k = L.length := by omega
      rw [List.take_length] at Hks
      obtain ⟨q, capq, rfl, _⟩ := Hks.out.cut
      have y0 := cell_keep Hbw.out Hlt.out x0
      generalize wr = wm at *
      have Hbm := Lib.hid (Hb0.out.trans (Hbw.out.mono Hb0.out.size))
      cases c with
      | true =>
        have hfk := freshKey0 q capq (L.map fun x => (0, toB x)) (by rw [List.length_map]; exact hl) wm Hks.out.keys
        rw [List.length_map, filt_all] at hfk
        have hvk := validKey_any 0 (toB (fre 0 L))
        rw [toB_list, fre_val0 L hl] at hvk
        have HR1' := Lib.hid (show R1 = toB (fre 0 L) from HR1.out)
        have HR2' := Lib.hid (show R2 = true from HR2.out)
        have hff : (⟨(fre 0 L).toArray⟩ : ByteArray) = toB (fre 0 L) := rfl
        rw [hff] at hfk
        clear hff HR1 HR2
        generalize toB (fre 0 L) = sx at *
        go_upto_region 11 with (first
          | (go_at_call 33; refine hfk.mono ?_; rintro e w1 ⟨rfl, hb1⟩; have Hb1 := Lib.hid hb1; clear hb1)
          | ((with_reducible refine at_store ?_); refine wpList_store_row rfl 36 (.tmp 9) (.tmp 38) rfl _ _ rfl rfl _ _ (heap_alloc_new _ _) (by kernel_rfl) (by kernel_rfl) (by kernel_rfl) ?_))
        have hrow := setRow_heap (w1.alloc (.cells #[.int .i64 0, .string ⟨#[]⟩] 36)) w1.heap.size _ #[.int .i64 0, .string sx] _ _ (heap_alloc_new _ _)
        have hbq : Below w1.heap.size w1 ((w1.alloc (.cells #[.int .i64 0, .string ⟨#[]⟩] 36)).setRow w1.heap.size #[.int .i64 0, .string sx]) := below_setRow ((Below.refl _ _).alloc (Nat.le_refl _) _) (Nat.le_refl _) _
        have Hbq := Lib.hid (Hbm.out.trans ((Hb1.out.trans (hbq.mono Hb1.out.size)).mono Hbm.out.size))
        clear hbq
        generalize (w1.alloc (.cells #[.int .i64 0, .string ⟨#[]⟩] 36)).setRow w1.heap.size #[.int .i64 0, .string sx] = wq at *
        have Hrow := Lib.hid hrow
        have Hglt := Lib.hid (heap_lt hrow)
        have hv := hvk wq
        have hx1 : wq.cell? ⟨w1.heap.size, 1, none⟩ = some (.string sx) := cell_of_row _ _ _ _ _ _ hrow
        have Hx1 := Lib.hid hx1
        clear hvk hrow hx1
        go_wp2_with (first
          | ((with_reducible refine at_load ?_); refine wpList_load_row rfl 36 (.tmp 9) rfl _ rfl _ _ (0, 0) _ Hrow.out rfl rfl (by kernel_rfl) ?_)
          | (go_at_call 34; refine hv.mono ?_; rintro e w2 ⟨rfl, hb2⟩; have Hb2 := Lib.hid hb2; have z1 := cell_keep Hb2.out Hglt.out Hx1.out; clear hb2))
        go_ret2
        exact ⟨by rw [HR1'.out, HR2'.out]; rfl, Hbq.out.trans (Hb2.out.mono Hbq.out.size)⟩
      | false =>
        have HR1' := Lib.hid (show R1 = toB (bst 0 L).1 from HR1.out)
        have HR2' := Lib.hid (show R2 = (bst 0 L).2 from HR2.out)
        clear HR1 HR2
        go_wp2
        go_loopw [10, 11, 46] (fun b f i wr => ∃ k : Nat, k ≤ L.length ∧ i = .int .i64 k ∧ b = .string (toB (bst 0 (L.take k)).1) ∧ f = .bool (bst 0 (L.take k)).2 ∧ Below wm.heap.size wm wr) (fun _ _ i _ => L.length - (intOf i).toNat)
        case atStart => exact ⟨0, by omega, rfl, rfl, rfl, Below.refl _ _⟩
        case round =>
          obtain ⟨k, hk, rfl, rfl, rfl, hbw⟩ := hrel
          have Hbr := Lib.hid hbw; clear hbw
          by_cases hlt : k < L.length
          · obtain ⟨g, rfl, hg, c0, c1⟩ := (Hks.out.below Hbr.out).cell k hlt
            rw [Nat.zero_add] at c0 c1
            have Hst := Lib.hid (bst_step 0 L k hlt)
            have hv0 := validKey_any 0 (toB L[k])
            rw [toB_list] at hv0
            generalize hbf : bst 0 (L.take k) = bf at *
            obtain ⟨b, f⟩ := bf
            have Hbf := Lib.hid hbf; clear hbf
            have hsh := shorter_any L[k] b
            generalize L[k] = x at *
            dsimp only
            go_upto_region 18 with ((with_reducible refine at_store ?_); refine wpList_store_row rfl 36 (.tmp 13) (.tmp 49) rfl _ _ rfl rfl _ _ (heap_alloc_new _ _) (by kernel_rfl) (by kernel_rfl) (by kernel_rfl) ?_)
            have hrow := setRow_heap (wr.alloc (.cells #[.int .i64 0, .string ⟨#[]⟩] 36)) wr.heap.size _ #[.int .i64 0, .string (toB x)] _ _ (heap_alloc_new _ _)
            have hbq : Below wr.heap.size wr ((wr.alloc (.cells #[.int .i64 0, .string ⟨#[]⟩] 36)).setRow wr.heap.size #[.int .i64 0, .string (toB x)]) := below_setRow ((Below.refl _ _).alloc (Nat.le_refl _) _) (Nat.le_refl _) _
            have Hbq := Lib.hid (Hbr.out.trans (hbq.mono Hbr.out.size))
            clear hbq
            generalize (wr.alloc (.cells #[.int .i64 0, .string ⟨#[]⟩] 36)).setRow wr.heap.size #[.int .i64 0, .string (toB x)] = wq at *
            have Hrow := Lib.hid hrow
            have Hglt := Lib.hid (heap_lt hrow)
            have hv := hv0 wq
            have Hx1 := Lib.hid (show wq.cell? ⟨wr.heap.size, 1, none⟩ = some (.string (toB x)) from cell_of_row _ _ _ _ _ _ hrow)
            clear hv0 hrow hg c0 c1
            cases hV : valK 0 x with
            | false =>
              have HV := Lib.hid hV; rw [hV] at hv; clear hV hsh
              cases f with
              | true =>
                go_wp2_with (first
                  | ((with_reducible refine at_load ?_); refine wpList_load_row rfl 36 (.tmp 13) rfl _ rfl _ _ (0, 0) _ Hrow.out rfl rfl (by kernel_rfl) ?_)
                  | (go_at_call 34; refine hv.mono ?_; rintro e w2 ⟨rfl, hb2⟩; have Hb2 := Lib.hid hb2; have z1 := cell_keep Hb2.out Hglt.out Hx1.out; clear hb2))
                exact ⟨⟨k + 1, by omega, by go_num, by rw [Hst.out]; simp [stp, HV.out], by rw [Hst.out]; simp [stp, HV.out], Hbq.out.trans (Hb2.out.mono Hbq.out.size)⟩, by simp [intOf]; omega⟩
              | false =>
                go_wp2_with (first
                  | ((with_reducible refine at_load ?_); refine wpList_load_row rfl 36 (.tmp 13) rfl _ rfl _ _ (0, 0) _ Hrow.out rfl rfl (by kernel_rfl) ?_)
                  | (go_at_call 34; refine hv.mono ?_; rintro e w2 ⟨rfl, hb2⟩; have Hb2 := Lib.hid hb2; have z1 := cell_keep Hb2.out Hglt.out Hx1.out; clear hb2))
                exact ⟨⟨k + 1, by omega, by go_num, by rw [Hst.out]; simp [stp, HV.out], by rw [Hst.out]; simp [stp, HV.out], Hbq.out.trans (Hb2.out.mono Hbq.out.size)⟩, by simp [intOf]; omega⟩
            | true =>
              have HV := Lib.hid hV; rw [hV] at hv; clear hV
              cases f with
              | false =>
                clear hsh
                go_wp2_with (first
                  | ((with_reducible refine at_load ?_); refine wpList_load_row rfl 36 (.tmp 13) rfl _ rfl _ _ (0, 0) _ Hrow.out rfl rfl (by kernel_rfl) ?_)
                  | (go_at_call 34; refine hv.mono ?_; rintro e w2 ⟨rfl, hb2⟩; have Hb2 := Lib.hid hb2; have z1 := cell_keep Hb2.out Hglt.out Hx1.out; clear hb2))
                exact ⟨⟨k + 1, by omega, by go_num, by rw [Hst.out]; simp [stp, HV.out], by rw [Hst.out]; simp [stp, HV.out], Hbq.out.trans (Hb2.out.mono Hbq.out.size)⟩, by simp [intOf]; omega⟩
              | true =>
                cases hD : bef x b with
                | true =>
                  have HD := Lib.hid hD; clear hD
                  go_wp2_with (first
                    | ((with_reducible refine at_load ?_); refine wpList_load_row rfl 36 (.tmp 13) rfl _ rfl _ _ (0, 0) _ Hrow.out rfl rfl (by kernel_rfl) ?_)
                    | (go_at_call 34; refine hv.mono ?_; rintro e w2 ⟨rfl, hb2⟩; have Hb2 := Lib.hid hb2; have z1 := cell_keep Hb2.out Hglt.out Hx1.out; clear hb2)
                    | (go_at_call 35; refine (hsh _).mono ?_; rintro e w3 ⟨⟨cc, rfl, hcc⟩, hw3⟩; subst hw3; rw [HD.out] at hcc; have hcl : cc < 0 := by simpa using hcc))
                  exact ⟨⟨k + 1, by omega, by go_num, by rw [Hst.out]; simp [stp, HV.out, HD.out], by rw [Hst.out]; simp [stp, HV.out, HD.out], Hbq.out.trans (Hb2.out.mono Hbq.out.size)⟩, by simp [intOf]; omega⟩
                | false =>
                  have HD := Lib.hid hD; clear hD
                  go_wp2_with (first
                    | ((with_reducible refine at_load ?_); refine wpList_load_row rfl 36 (.tmp 13) rfl _ rfl _ _ (0, 0) _ Hrow.out rfl rfl (by kernel_rfl) ?_)
                    | (go_at_call 34; refine hv.mono ?_; rintro e w2 ⟨rfl, hb2⟩; have Hb2 := Lib.hid hb2; have z1 := cell_keep Hb2.out Hglt.out Hx1.out; clear hb2)
                    | (go_at_call 35; refine (hsh _).mono ?_; rintro e w3 ⟨⟨cc, rfl, hcc⟩, hw3⟩; subst hw3; rw [HD.out] at hcc; have hcl : ¬ cc < 0 := by simpa using hcc))
                  exact ⟨⟨k + 1, by omega, by go_num, by rw [Hst.out]; simp [stp, HV.out, HD.out], by rw [Hst.out]; simp [stp, HV.out, HD.out], Hbq.out.trans (Hb2.out.mono Hbq.out.size)⟩, by simp [intOf]; omega⟩
          · obtain rfl : k = L.length := by omega
            rw [List.take_length]
            go_wp2
            go_ret2
            exact ⟨by rw [HR1'.out, HR2'.out]; rfl, Hbm.out.trans (Hbr.out.mono Hbm.out.size)⟩
set_option maxRecDepth 100000 in
set_option maxHeartbeats 32000000 in
theorem first1_any (c : Bool) (p : Option Addr) (cap : Nat) (L : List Nm) (hl : L.length ≤ 60) (w : World) (hS : SL w p L) :
    Calls Try.prog 15 #[.agg #[.bool c, .slice p L.length cap], .int .i64 1] w fun e w' => e = .returned (.tuple #[.string (toB (frs 1 c L).1), .bool (frs 1 c L).2]) ∧ Below w.heap.size w w' := by
  have hb0 : Below w.heap.size w (w.alloc (.cells #[.bool c, .slice p L.length cap] 25)) := (Below.refl _ _).alloc (Nat.le_refl _) _
  have hr0 : (w.alloc (.cells #[.bool c, .slice p L.length cap] 25)).heap[w.heap.size]? = some (.cells #[.bool c, .slice p L.length cap] 25) := heap_alloc_new _ _
  have hS' := hS.below hb0
  have HS := Lib.hid hS'; have Hb0 := Lib.hid hb0
  clear hb0 hS hS'
  obtain ⟨R1, hR1⟩ : ∃ R, R = toB (frs 1 c L).1 := ⟨_, rfl⟩
  obtain ⟨R2, hR2⟩ : ∃ R, R = (frs 1 c L).2 := ⟨_, rfl⟩
  rw [← hR1, ← hR2]
  have HR1 := Lib.hid hR1; have HR2 := Lib.hid hR2; clear hR1 hR2
  go_enter Try.func15, Try.ntmps15
  go_upto_region 1 with fail
  generalize w.alloc (.cells #[.bool c, .slice p L.length cap] 25) = wb at *
  have x0 : wb.cell? ⟨w.heap.size, 0, none⟩ = some (.bool c) := cell_of_row _ _ _ _ _ _ hr0
  have x1 : wb.cell? ⟨w.heap.size, 1, none⟩ = some (.slice p L.length cap) := cell_of_row _ _ _ _ _ _ hr0
  have Hlt := Lib.hid (heap_lt hr0)
  clear hr0
  go_wp2
  go_loopw [6, 23] (fun v i wr => ∃ k : Nat, k ≤ L.length ∧ i = .int .i64 k ∧ KS wb.heap.size wr v 1 (L.take k) ∧ Below wb.heap.size wb wr) (fun _ i _ => L.length - (intOf i).toNat)
  case atStart => exact ⟨0, by omega, rfl, KS.nil _ _ _, Below.refl _ _⟩
  case round =>
    obtain ⟨k, hk, rfl, hks, hbw⟩ := hrel
    have Hks := Lib.hid hks; have Hbw := Lib.hid hbw
    clear hks hbw
    by_cases hlt : k < L.length
    · obtain ⟨a, o, rfl, ha, c0⟩ := (HS.out.below Hbw.out).cell k hlt
      have Hsz := Lib.hid (HS.out.size L[k] (List.getElem_mem hlt))
      have Htk := Lib.hid (List.take_succ_eq_append_getElem hlt)
      have Hln := Lib.hid (show (L.take k).length ≤ 1000000 by rw [List.length_take]; omega)
      generalize L[k] = x at *
      clear ha
      go_wp2_with (first
        | (at_builtin; refine wpList_append_key rfl (.tmp 27) (.tmp 31) rfl wb.heap.size _ Hbw.out.size 1 x Hsz.out _ _ rfl Hks.out Hln.out rfl ?_; intro v' w2 ho2 hb2; have Ho2 := Lib.hid ho2; have HB2 := Lib.hid (hb2 _ Hbw.out); clear ho2 hb2))
      exact ⟨⟨k + 1, by omega, by go_num, by rw [Htk.out]; exact Ho2.out, HB2.out⟩, by simp [intOf]; omega⟩
    · obtain rfl : k = L.length := by omega
      rw [List.take_length] at Hks
      obtain ⟨q, capq, rfl, _⟩ := Hks.out.cut
      have y0 := cell_keep Hbw.out Hlt.out x0
      generalize wr = wm at *
      have Hbm := Lib.hid (Hb0.out.trans (Hbw.out.mono Hb0.out.size))
      cases c with
      | true =>
        have hfk := freshKey1 q capq (L.map fun x => (1, toB x)) (by rw [List.length_map]; exact hl) wm Hks.out.keys
        rw [List.length_map, filt_all] at hfk
        have hvk := validKey_any 1 (toB (fre 1 L))
        rw [toB_list, fre_val1 L hl] at hvk
        have HR1' := Lib.hid (show R1 = toB (fre 1 L) from HR1.out)
        have HR2' := Lib.hid (show R2 = true from HR2.out)
        have hff : (⟨(fre 1 L).toArray⟩ : ByteArray) = toB (fre 1 L) := rfl
        rw [hff] at hfk
        clear hff HR1 HR2
        generalize toB (fre 1 L) = sx at *
        go_upto_region 11 with (first
          | (go_at_call 33; refine hfk.mono ?_; rintro e w1 ⟨rfl, hb1⟩; have Hb1 := Lib.hid hb1; clear hb1)
          | ((with_reducible refine at_store ?_); refine wpList_store_row rfl 36 (.tmp 9) (.tmp 38) rfl _ _ rfl rfl _ _ (heap_alloc_new _ _) (by kernel_rfl) (by kernel_rfl) (by kernel_rfl) ?_))
        have hrow := setRow_heap (w1.alloc (.cells #[.int .i64 0, .string ⟨#[]⟩] 36)) w1.heap.size _ #[.int .i64 1, .string sx] _ _ (heap_alloc_new _ _)
        have hbq : Below w1.heap.size w1 ((w1.alloc (.cells #[.int .i64 0, .string ⟨#[]⟩] 36)).setRow w1.heap.size #[.int .i64 1, .string sx]) := below_setRow ((Below.refl _ _).alloc (Nat.le_refl _) _) (Nat.le_refl _) _
        have Hbq := Lib.hid (Hbm.out.trans ((Hb1.out.trans (hbq.mono Hb1.out.size)).mono Hbm.out.size))
        clear hbq
        generalize (w1.alloc (.cells #[.int .i64 0, .string ⟨#[]⟩] 36)).setRow w1.heap.size #[.int .i64 1, .string sx] = wq at *
        have Hrow := Lib.hid hrow
        have Hglt := Lib.hid (heap_lt hrow)
        have hv := hvk wq
        have hx1 : wq.cell? ⟨w1.heap.size, 1, none⟩ = some (.string sx) := cell_of_row _ _ _ _ _ _ hrow
        have Hx1 := Lib.hid hx1
        clear hvk hrow hx1
        go_wp2_with (first
          | ((with_reducible refine at_load ?_); refine wpList_load_row rfl 36 (.tmp 9) rfl _ rfl _ _ (0, 0) _ Hrow.out rfl rfl (by kernel_rfl) ?_)
          | (go_at_call 34; refine hv.mono ?_; rintro e w2 ⟨rfl, hb2⟩; have Hb2 := Lib.hid hb2; have z1 := cell_keep Hb2.out Hglt.out Hx1.out; clear hb2))
        go_ret2
        exact ⟨by rw [HR1'.out, HR2'.out]; rfl, Hbq.out.trans (Hb2.out.mono Hbq.out.size)⟩
      | false =>
        have HR1' := Lib.hid (show R1 = toB (bst 1 L).1 from HR1.out)
        have HR2' := Lib.hid (show R2 = (bst 1 L).2 from HR2.out)
        clear HR1 HR2
        go_wp2
        go_loopw [10, 11, 46] (fun b f i wr => ∃ k : Nat, k ≤ L.length ∧ i = .int .i64 k ∧ b = .string (toB (bst 1 (L.take k)).1) ∧ f = .bool (bst 1 (L.take k)).2 ∧ Below wm.heap.size wm wr) (fun _ _ i _ => L.length - (intOf i).toNat)
        case atStart => exact ⟨0, by omega, rfl, rfl, rfl, Below.refl _ _⟩
        case round =>
          obtain ⟨k, hk, rfl, rfl, rfl, hbw⟩ := hrel
          have Hbr := Lib.hid hbw; clear hbw
          by_cases hlt : k < L.length
          · obtain ⟨g, rfl, hg, c0, c1⟩ := (Hks.out.below Hbr.out).cell k hlt
            rw [Nat.zero_add] at c0 c1
            have Hst := Lib.hid (bst_step 1 L k hlt)
            have hv0 := validKey_any 1 (toB L[k])
            rw [toB_list] at hv0
            generalize hbf : bst 1 (L.take k) = bf at *
            obtain ⟨b, f⟩ := bf
            have Hbf := Lib.hid hbf; clear hbf
            have hsh := shorter_any L[k] b
            generalize L[k] = x at *
            dsimp only
            go_upto_region 18 with ((with_reducible refine at_store ?_); refine wpList_store_row rfl 36 (.tmp 13) (.tmp 49) rfl _ _ rfl rfl _ _ (heap_alloc_new _ _) (by kernel_rfl) (by kernel_rfl) (by kernel_rfl) ?_)
            have hrow := setRow_heap (wr.alloc (.cells #[.int .i64 0, .string ⟨#[]⟩] 36)) wr.heap.size _ #[.int .i64 1, .string (toB x)] _ _ (heap_alloc_new _ _)
            have hbq : Below wr.heap.size wr ((wr.alloc (.cells #[.int .i64 0, .string ⟨#[]⟩] 36)).setRow wr.heap.size #[.int .i64 1, .string (toB x)]) := below_setRow ((Below.refl _ _).alloc (Nat.le_refl _) _) (Nat.le_refl _) _
            have Hbq := Lib.hid (Hbr.out.trans (hbq.mono Hbr.out.size))
            clear hbq
            generalize (wr.alloc (.cells #[.int .i64 0, .string ⟨#[]⟩] 36)).setRow wr.heap.size #[.int .i64 1, .string (toB x)] = wq at *
            have Hrow := Lib.hid hrow
            have Hglt := Lib.hid (heap_lt hrow)
            have hv := hv0 wq
            have Hx1 := Lib.hid (show wq.cell? ⟨wr.heap.size, 1, none⟩ = some (.string (toB x)) from cell_of_row _ _ _ _ _ _ hrow)
            clear hv0 hrow hg c0 c1
            cases hV : valK 1 x with
            | false =>
              have HV := Lib.hid hV; rw [hV] at hv; clear hV hsh
              cases f with
              | true =>
                go_wp2_with (first
                  | ((with_reducible refine at_load ?_); refine wpList_load_row rfl 36 (.tmp 13) rfl _ rfl _ _ (0, 0) _ Hrow.out rfl rfl (by kernel_rfl) ?_)
                  | (go_at_call 34; refine hv.mono ?_; rintro e w2 ⟨rfl, hb2⟩; have Hb2 := Lib.hid hb2; have z1 := cell_keep Hb2.out Hglt.out Hx1.out; clear hb2))
                exact ⟨⟨k + 1, by omega, by go_num, by rw [Hst.out]; simp [stp, HV.out], by rw [Hst.out]; simp [stp, HV.out], Hbq.out.trans (Hb2.out.mono Hbq.out.size)⟩, by simp [intOf]; omega⟩
              | false =>
                go_wp2_with (first
                  | ((with_reducible refine at_load ?_); refine wpList_load_row rfl 36 (.tmp 13) rfl _ rfl _ _ (0, 0) _ Hrow.out rfl rfl (by kernel_rfl) ?_)
                  | (go_at_call 34; refine hv.mono ?_; rintro e w2 ⟨rfl, hb2⟩; have Hb2 := Lib.hid hb2; have z1 := cell_keep Hb2.out Hglt.out Hx1.out; clear hb2))
                exact ⟨⟨k + 1, by omega, by go_num, by rw [Hst.out]; simp [stp, HV.out], by rw [Hst.out]; simp [stp, HV.out], Hbq.out.trans (Hb2.out.mono Hbq.out.size)⟩, by simp [intOf]; omega⟩
            | true =>
              have HV := Lib.hid hV; rw [hV] at hv; clear hV
              cases f with
              | false =>
                clear hsh
                go_wp2_with (first
                  | ((with_reducible refine at_load ?_); refine wpList_load_row rfl 36 (.tmp 13) rfl _ rfl _ _ (0, 0) _ Hrow.out rfl rfl (by kernel_rfl) ?_)
                  | (go_at_call 34; refine hv.mono ?_; rintro e w2 ⟨rfl, hb2⟩; have Hb2 := Lib.hid hb2; have z1 := cell_keep Hb2.out Hglt.out Hx1.out; clear hb2))
                exact ⟨⟨k + 1, by omega, by go_num, by rw [Hst.out]; simp [stp, HV.out], by rw [Hst.out]; simp [stp, HV.out], Hbq.out.trans (Hb2.out.mono Hbq.out.size)⟩, by simp [intOf]; omega⟩
              | true =>
                cases hD : bef x b with
                | true =>
                  have HD := Lib.hid hD; clear hD
                  go_wp2_with (first
                    | ((with_reducible refine at_load ?_); refine wpList_load_row rfl 36 (.tmp 13) rfl _ rfl _ _ (0, 0) _ Hrow.out rfl rfl (by kernel_rfl) ?_)
                    | (go_at_call 34; refine hv.mono ?_; rintro e w2 ⟨rfl, hb2⟩; have Hb2 := Lib.hid hb2; have z1 := cell_keep Hb2.out Hglt.out Hx1.out; clear hb2)
                    | (go_at_call 35; refine (hsh _).mono ?_; rintro e w3 ⟨⟨cc, rfl, hcc⟩, hw3⟩; subst hw3; rw [HD.out] at hcc; have hcl : cc < 0 := by simpa using hcc))
                  exact ⟨⟨k + 1, by omega, by go_num, by rw [Hst.out]; simp [stp, HV.out, HD.out], by rw [Hst.out]; simp [stp, HV.out, HD.out], Hbq.out.trans (Hb2.out.mono Hbq.out.size)⟩, by simp [intOf]; omega⟩
                | false =>
                  have HD := Lib.hid hD; clear hD
                  go_wp2_with (first
                    | ((with_reducible refine at_load ?_); refine wpList_load_row rfl 36 (.tmp 13) rfl _ rfl _ _ (0, 0) _ Hrow.out rfl rfl (by kernel_rfl) ?_)
                    | (go_at_call 34; refine hv.mono ?_; rintro e w2 ⟨rfl, hb2⟩; have Hb2 := Lib.hid hb2; have z1 := cell_keep Hb2.out Hglt.out Hx1.out; clear hb2)
                    | (go_at_call 35; refine (hsh _).mono ?_; rintro e w3 ⟨⟨cc, rfl, hcc⟩, hw3⟩; subst hw3; rw [HD.out] at hcc; have hcl : ¬ cc < 0 := by simpa using hcc))
                  exact ⟨⟨k + 1, by omega, by go_num, by rw [Hst.out]; simp [stp, HV.out, HD.out], by rw [Hst.out]; simp [stp, HV.out, HD.out], Hbq.out.trans (Hb2.out.mono Hbq.out.size)⟩, by simp [intOf]; omega⟩
          · obtain rfl : k = L.length := by omega
            rw [List.take_length]
            go_wp2
            go_ret2
            exact ⟨by rw [HR1'.out, HR2'.out]; rfl, Hbm.out.trans (Hbr.out.mono Hbm.out.size)⟩
end Go.Proofs.Ytejiagmfinhjbaa
