/-
  Walks: FirstName.
-/
import Derived.Test.YtejiagmfinhjbaaNw
namespace Go.Proofs.Ytejiagmfinhjbaa
open Go.RowKit Go.Ident Go.Names

set_option maxRecDepth 100000 in
theorem firstNameN_any (kind : Int) (h0 : kind ≠ 0) (h1 : kind ≠ 1) (c : Bool) (p : Option Addr) (n cap : Nat) (w : World) :
    Calls Try.prog 16 #[.agg #[.bool c, .slice p n cap], .int .i64 kind] w fun e w' => e = .returned (.tuple #[.string (toB []), .bool false]) ∧ Below w.heap.size w w' := by
  have d0 : (kind != 0) = true := by simpa using h0
  have d1 : (kind != 1) = true := by simpa using h1
  clear h0 h1
  have HB := Lib.hid (show ∀ o, Below w.heap.size w (w.alloc o) from fun o => (Below.refl w.heap.size w).alloc (Nat.le_refl _) o)
  go_enter Try.func16, Try.ntmps16
  go_wp2
  go_ret2
  exact ⟨rfl, HB.out _⟩
set_option maxRecDepth 100000 in
set_option maxHeartbeats 32000000 in
theorem firstName0_any (c : Bool) (p : Option Addr) (cap : Nat) (L : List Nm) (hl : L.length ≤ 60) (w : World) (hS : SL w p L) :
    Calls Try.prog 16 #[.agg #[.bool c, .slice p L.length cap], .int .i64 0] w fun e w' => e = .returned (.tuple #[.string (toB (frs 0 c L).1), .bool (frs 0 c L).2]) ∧ Below w.heap.size w w' := by
  have hb0 : Below w.heap.size w (w.alloc (.cells #[.bool c, .slice p L.length cap] 25)) := (Below.refl _ _).alloc (Nat.le_refl _) _
  have hr0 : (w.alloc (.cells #[.bool c, .slice p L.length cap] 25)).heap[w.heap.size]? = some (.cells #[.bool c, .slice p L.length cap] 25) := heap_alloc_new _ _
  have hS' := hS.below hb0
  have HS := Lib.hid hS'; have Hb0 := Lib.hid hb0
  clear hb0 hS hS'
  obtain ⟨R1, hR1⟩ : ∃ R, R = toB (frs 0 c L).1 := ⟨_, rfl⟩
  obtain ⟨R2, hR2⟩ : ∃ R, R = (frs 0 c L).2 := ⟨_, rfl⟩
  rw [← hR1, ← hR2]
  have HR1 := Lib.hid hR1; have HR2 := Lib.hid hR2; clear hR1 hR2
  go_enter Try.func16, Try.ntmps16
  go_upto_region 1 with fail
  generalize w.alloc (.cells #[.bool c, .slice p L.length cap] 25) = wb at *
  have x0 : wb.cell? ⟨w.heap.size, 0, none⟩ = some (.bool c) := cell_of_row _ _ _ _ _ _ hr0
  have x1 : wb.cell? ⟨w.heap.size, 1, none⟩ = some (.slice p L.length cap) := cell_of_row _ _ _ _ _ _ hr0
  have Hlt := Lib.hid (heap_lt hr0)
  clear hr0
  cases c with
  | true =>
    have hfk := refFresh_any 0 (by omega) p cap (L.map toB) (by rw [List.length_map]; exact hl) wb HS.out.strs
    rw [List.length_map, bys_toB] at hfk
    have HR1' := Lib.hid (show R1 = toB (fre 0 L) from HR1.out)
    have HR2' := Lib.hid (show R2 = true from HR2.out)
    have hff : (⟨(fre 0 L).toArray⟩ : ByteArray) = toB (fre 0 L) := rfl
    rw [hff] at hfk
    clear hff HR1 HR2
    generalize toB (fre 0 L) = sx at *
    go_wp2_with (first
      | (go_at_call 36; refine hfk.mono ?_; rintro e w1 ⟨rfl, hb1⟩; have Hb1 := Lib.hid hb1; clear hb1))
    go_ret2
    exact ⟨by rw [HR1'.out, HR2'.out]; rfl, Hb0.out.trans (Hb1.out.mono Hb0.out.size)⟩
  | false =>
    have HR1' := Lib.hid (show R1 = toB (bst 0 L).1 from HR1.out)
    have HR2' := Lib.hid (show R2 = (bst 0 L).2 from HR2.out)
    clear HR1 HR2
    go_wp2
    go_loopw [6, 7, 8] (fun b f i wr => ∃ k : Nat, k ≤ L.length ∧ i = .int .i64 k ∧ b = .string (toB (bst 0 (L.take k)).1) ∧ f = .bool (bst 0 (L.take k)).2 ∧ Below wb.heap.size wb wr) (fun _ _ i _ => L.length - (intOf i).toNat)
    case atStart => exact ⟨0, by omega, rfl, rfl, rfl, Below.refl _ _⟩
    case round =>
      obtain ⟨k, hk, rfl, rfl, rfl, hbw⟩ := hrel
      have Hbr := Lib.hid hbw; clear hbw
      have y1 := cell_keep Hbr.out Hlt.out x1
      by_cases hlt : k < L.length
      · obtain ⟨a, o, rfl, ha, c0⟩ := (HS.out.below Hbr.out).cell k hlt
        have Hk2 := Lib.hid ha
        have Hst := Lib.hid (bst_step 0 L k hlt)
        have hv := fits_any 0 L[k] wr
        generalize hbf : bst 0 (L.take k) = bf at *
        obtain ⟨b, f⟩ := bf
        clear hbf
        generalize L[k] = x at *
        have c0k := Lib.hid c0
        clear ha
        dsimp only
        have hsx := size_toB x
        have hsb := size_toB b
        have hbl : Op.bytesLess (toB x).toList (toB b).toList = decide (x < b) := by rw [toB_toList, toB_toList, bl_dec]
        cases hV : valK 0 x with
        | false =>
          have HV := Lib.hid hV; rw [hV] at hv; clear hV hsx hsb hbl
          generalize toB x = sx at *
          cases f with
          | true =>
            go_wp2_with (first
              | (go_at_call 37; refine hv.mono ?_; rintro e w2 ⟨rfl, hb2⟩; have Hb2 := Lib.hid hb2; have z1 := cell_keep Hb2.out Hk2.out c0k.out; clear hb2))
            exact ⟨⟨k + 1, by omega, by go_num, by rw [Hst.out]; simp [stp, HV.out], by rw [Hst.out]; simp [stp, HV.out], Hbr.out.trans (Hb2.out.mono Hbr.out.size)⟩, by simp [intOf]; omega⟩
          | false =>
            go_wp2_with (first
              | (go_at_call 37; refine hv.mono ?_; rintro e w2 ⟨rfl, hb2⟩; have Hb2 := Lib.hid hb2; have z1 := cell_keep Hb2.out Hk2.out c0k.out; clear hb2))
            exact ⟨⟨k + 1, by omega, by go_num, by rw [Hst.out]; simp [stp, HV.out], by rw [Hst.out]; simp [stp, HV.out], Hbr.out.trans (Hb2.out.mono Hbr.out.size)⟩, by simp [intOf]; omega⟩
        | true =>
          have HV := Lib.hid hV; rw [hV] at hv; clear hV
          cases f with
          | false =>
            clear hsx hsb hbl
            go_wp2_with (first
              | (go_at_call 37; refine hv.mono ?_; rintro e w2 ⟨rfl, hb2⟩; have Hb2 := Lib.hid hb2; have z1 := cell_keep Hb2.out Hk2.out c0k.out; clear hb2))
            exact ⟨⟨k + 1, by omega, by go_num, by rw [Hst.out]; simp [stp, HV.out], by rw [Hst.out]; simp [stp, HV.out], Hbr.out.trans (Hb2.out.mono Hbr.out.size)⟩, by simp [intOf]; omega⟩
          | true =>
            rcases Nat.lt_trichotomy x.length b.length with hll | hll | hll
            · have HD := Lib.hid (show bef x b = true by unfold bef; simp [hll])
              have hl1 : (toB x).size < (toB b).size := by omega
              clear hsx hsb hbl hll
              go_wp2_with (first
                | (go_at_call 37; refine hv.mono ?_; rintro e w2 ⟨rfl, hb2⟩; have Hb2 := Lib.hid hb2; have z1 := cell_keep Hb2.out Hk2.out c0k.out; clear hb2))
              exact ⟨⟨k + 1, by omega, by go_num, by rw [Hst.out]; simp [stp, HV.out, HD.out], by rw [Hst.out]; simp [stp, HV.out, HD.out], Hbr.out.trans (Hb2.out.mono Hbr.out.size)⟩, by simp [intOf]; omega⟩
            · have hl1 : (toB x).size = (toB b).size := by omega
              clear hsx hsb
              cases hd : decide (x < b) with
              | true =>
                rw [hd] at hbl
                have HD := Lib.hid (show bef x b = true by unfold bef; have hq : x < b := (by simpa using hd); simp [hll, hq])
                clear hd hll
                go_wp2_with (first
                  | (go_at_call 37; refine hv.mono ?_; rintro e w2 ⟨rfl, hb2⟩; have Hb2 := Lib.hid hb2; have z1 := cell_keep Hb2.out Hk2.out c0k.out; clear hb2))
                exact ⟨⟨k + 1, by omega, by go_num, by rw [Hst.out]; simp [stp, HV.out, HD.out], by rw [Hst.out]; simp [stp, HV.out, HD.out], Hbr.out.trans (Hb2.out.mono Hbr.out.size)⟩, by simp [intOf]; omega⟩
              | false =>
                rw [hd] at hbl
                have HD := Lib.hid (show bef x b = false by unfold bef; have hq : ¬ x < b := (by simpa using hd); simp [hll, hq])
                clear hd hll
                go_wp2_with (first
                  | (go_at_call 37; refine hv.mono ?_; rintro e w2 ⟨rfl, hb2⟩; have Hb2 := Lib.hid hb2; have z1 := cell_keep Hb2.out Hk2.out c0k.out; clear hb2))
                exact ⟨⟨k + 1, by omega, by go_num, by rw [Hst.out]; simp [stp, HV.out, HD.out], by rw [Hst.out]; simp [stp, HV.out, HD.out], Hbr.out.trans (Hb2.out.mono Hbr.out.size)⟩, by simp [intOf]; omega⟩
            · have HD := Lib.hid (show bef x b = false by unfold bef; simp; omega)
              have hl1 : ¬ (toB x).size < (toB b).size := by omega
              have hl2 : ¬ (toB x).size = (toB b).size := by omega
              clear hsx hsb hbl hll
              go_wp2_with (first
                | (go_at_call 37; refine hv.mono ?_; rintro e w2 ⟨rfl, hb2⟩; have Hb2 := Lib.hid hb2; have z1 := cell_keep Hb2.out Hk2.out c0k.out; clear hb2))
              exact ⟨⟨k + 1, by omega, by go_num, by rw [Hst.out]; simp [stp, HV.out, HD.out], by rw [Hst.out]; simp [stp, HV.out, HD.out], Hbr.out.trans (Hb2.out.mono Hbr.out.size)⟩, by simp [intOf]; omega⟩
      · obtain rfl : k = L.length := by omega
        rw [List.take_length]
        go_wp2
        go_ret2
        exact ⟨by rw [HR1'.out, HR2'.out]; rfl, Hb0.out.trans (Hbr.out.mono Hb0.out.size)⟩
set_option maxRecDepth 100000 in
set_option maxHeartbeats 32000000 in
theorem firstName1_any (c : Bool) (p : Option Addr) (cap : Nat) (L : List Nm) (hl : L.length ≤ 60) (w : World) (hS : SL w p L) :
    Calls Try.prog 16 #[.agg #[.bool c, .slice p L.length cap], .int .i64 1] w fun e w' => e = .returned (.tuple #[.string (toB (frs 1 c L).1), .bool (frs 1 c L).2]) ∧ Below w.heap.size w w' := by
  have hb0 : Below w.heap.size w (w.alloc (.cells #[.bool c, .slice p L.length cap] 25)) := (Below.refl _ _).alloc (Nat.le_refl _) _
  have hr0 : (w.alloc (.cells #[.bool c, .slice p L.length cap] 25)).heap[w.heap.size]? = some (.cells #[.bool c, .slice p L.length cap] 25) := heap_alloc_new _ _
  have hS' := hS.below hb0
  have HS := Lib.hid hS'; have Hb0 := Lib.hid hb0
  clear hb0 hS hS'
  obtain ⟨R1, hR1⟩ : ∃ R, R = toB (frs 1 c L).1 := ⟨_, rfl⟩
  obtain ⟨R2, hR2⟩ : ∃ R, R = (frs 1 c L).2 := ⟨_, rfl⟩
  rw [← hR1, ← hR2]
  have HR1 := Lib.hid hR1; have HR2 := Lib.hid hR2; clear hR1 hR2
  go_enter Try.func16, Try.ntmps16
  go_upto_region 1 with fail
  generalize w.alloc (.cells #[.bool c, .slice p L.length cap] 25) = wb at *
  have x0 : wb.cell? ⟨w.heap.size, 0, none⟩ = some (.bool c) := cell_of_row _ _ _ _ _ _ hr0
  have x1 : wb.cell? ⟨w.heap.size, 1, none⟩ = some (.slice p L.length cap) := cell_of_row _ _ _ _ _ _ hr0
  have Hlt := Lib.hid (heap_lt hr0)
  clear hr0
  cases c with
  | true =>
    have hfk := refFresh_any 1 (by omega) p cap (L.map toB) (by rw [List.length_map]; exact hl) wb HS.out.strs
    rw [List.length_map, bys_toB] at hfk
    have HR1' := Lib.hid (show R1 = toB (fre 1 L) from HR1.out)
    have HR2' := Lib.hid (show R2 = true from HR2.out)
    have hff : (⟨(fre 1 L).toArray⟩ : ByteArray) = toB (fre 1 L) := rfl
    rw [hff] at hfk
    clear hff HR1 HR2
    generalize toB (fre 1 L) = sx at *
    go_wp2_with (first
      | (go_at_call 36; refine hfk.mono ?_; rintro e w1 ⟨rfl, hb1⟩; have Hb1 := Lib.hid hb1; clear hb1))
    go_ret2
    exact ⟨by rw [HR1'.out, HR2'.out]; rfl, Hb0.out.trans (Hb1.out.mono Hb0.out.size)⟩
  | false =>
    have HR1' := Lib.hid (show R1 = toB (bst 1 L).1 from HR1.out)
    have HR2' := Lib.hid (show R2 = (bst 1 L).2 from HR2.out)
    clear HR1 HR2
    go_wp2
    go_loopw [6, 7, 8] (fun b f i wr => ∃ k : Nat, k ≤ L.length ∧ i = .int .i64 k ∧ b = .string (toB (bst 1 (L.take k)).1) ∧ f = .bool (bst 1 (L.take k)).2 ∧ Below wb.heap.size wb wr) (fun _ _ i _ => L.length - (intOf i).toNat)
    case atStart => exact ⟨0, by omega, rfl, rfl, rfl, Below.refl _ _⟩
    case round =>
      obtain ⟨k, hk, rfl, rfl, rfl, hbw⟩ := hrel
      have Hbr := Lib.hid hbw; clear hbw
      have y1 := cell_keep Hbr.out Hlt.out x1
      by_cases hlt : k < L.length
      · obtain ⟨a, o, rfl, ha, c0⟩ := (HS.out.below Hbr.out).cell k hlt
        have Hk2 := Lib.hid ha
        have Hst := Lib.hid (bst_step 1 L k hlt)
        have hv := fits_any 1 L[k] wr
        generalize hbf : bst 1 (L.take k) = bf at *
        obtain ⟨b, f⟩ := bf
        clear hbf
        generalize L[k] = x at *
        have c0k := Lib.hid c0
        clear ha
        dsimp only
        have hsx := size_toB x
        have hsb := size_toB b
        have hbl : Op.bytesLess (toB x).toList (toB b).toList = decide (x < b) := by rw [toB_toList, toB_toList, bl_dec]
        cases hV : valK 1 x with
        | false =>
          have HV := Lib.hid hV; rw [hV] at hv; clear hV hsx hsb hbl
          generalize toB x = sx at *
          cases f with
          | true =>
            go_wp2_with (first
              | (go_at_call 37; refine hv.mono ?_; rintro e w2 ⟨rfl, hb2⟩; have Hb2 := Lib.hid hb2; have z1 := cell_keep Hb2.out Hk2.out c0k.out; clear hb2))
            exact ⟨⟨k + 1, by omega, by go_num, by rw [Hst.out]; simp [stp, HV.out], by rw [Hst.out]; simp [stp, HV.out], Hbr.out.trans (Hb2.out.mono Hbr.out.size)⟩, by simp [intOf]; omega⟩
          | false =>
            go_wp2_with (first
              | (go_at_call 37; refine hv.mono ?_; rintro e w2 ⟨rfl, hb2⟩; have Hb2 := Lib.hid hb2; have z1 := cell_keep Hb2.out Hk2.out c0k.out; clear hb2))
            exact ⟨⟨k + 1, by omega, by go_num, by rw [Hst.out]; simp [stp, HV.out], by rw [Hst.out]; simp [stp, HV.out], Hbr.out.trans (Hb2.out.mono Hbr.out.size)⟩, by simp [intOf]; omega⟩
        | true =>
          have HV := Lib.hid hV; rw [hV] at hv; clear hV
          cases f with
          | false =>
            clear hsx hsb hbl
            go_wp2_with (first
              | (go_at_call 37; refine hv.mono ?_; rintro e w2 ⟨rfl, hb2⟩; have Hb2 := Lib.hid hb2; have z1 := cell_keep Hb2.out Hk2.out c0k.out; clear hb2))
            exact ⟨⟨k + 1, by omega, by go_num, by rw [Hst.out]; simp [stp, HV.out], by rw [Hst.out]; simp [stp, HV.out], Hbr.out.trans (Hb2.out.mono Hbr.out.size)⟩, by simp [intOf]; omega⟩
          | true =>
            rcases Nat.lt_trichotomy x.length b.length with hll | hll | hll
            · have HD := Lib.hid (show bef x b = true by unfold bef; simp [hll])
              have hl1 : (toB x).size < (toB b).size := by omega
              clear hsx hsb hbl hll
              go_wp2_with (first
                | (go_at_call 37; refine hv.mono ?_; rintro e w2 ⟨rfl, hb2⟩; have Hb2 := Lib.hid hb2; have z1 := cell_keep Hb2.out Hk2.out c0k.out; clear hb2))
              exact ⟨⟨k + 1, by omega, by go_num, by rw [Hst.out]; simp [stp, HV.out, HD.out], by rw [Hst.out]; simp [stp, HV.out, HD.out], Hbr.out.trans (Hb2.out.mono Hbr.out.size)⟩, by simp [intOf]; omega⟩
            · have hl1 : (toB x).size = (toB b).size := by omega
              clear hsx hsb
              cases hd : decide (x < b) with
              | true =>
                rw [hd] at hbl
                have HD := Lib.hid (show bef x b = true by unfold bef; have hq : x < b := (by simpa using hd); simp [hll, hq])
                clear hd hll
                go_wp2_with (first
                  | (go_at_call 37; refine hv.mono ?_; rintro e w2 ⟨rfl, hb2⟩; have Hb2 := Lib.hid hb2; have z1 := cell_keep Hb2.out Hk2.out c0k.out; clear hb2))
                exact ⟨⟨k + 1, by omega, by go_num, by rw [Hst.out]; simp [stp, HV.out, HD.out], by rw [Hst.out]; simp [stp, HV.out, HD.out], Hbr.out.trans (Hb2.out.mono Hbr.out.size)⟩, by simp [intOf]; omega⟩
              | false =>
                rw [hd] at hbl
                have HD := Lib.hid (show bef x b = false by unfold bef; have hq : ¬ x < b := (by simpa using hd); simp [hll, hq])
                clear hd hll
                go_wp2_with (first
                  | (go_at_call 37; refine hv.mono ?_; rintro e w2 ⟨rfl, hb2⟩; have Hb2 := Lib.hid hb2; have z1 := cell_keep Hb2.out Hk2.out c0k.out; clear hb2))
                exact ⟨⟨k + 1, by omega, by go_num, by rw [Hst.out]; simp [stp, HV.out, HD.out], by rw [Hst.out]; simp [stp, HV.out, HD.out], Hbr.out.trans (Hb2.out.mono Hbr.out.size)⟩, by simp [intOf]; omega⟩
            · have HD := Lib.hid (show bef x b = false by unfold bef; simp; omega)
              have hl1 : ¬ (toB x).size < (toB b).size := by omega
              have hl2 : ¬ (toB x).size = (toB b).size := by omega
              clear hsx hsb hbl hll
              go_wp2_with (first
                | (go_at_call 37; refine hv.mono ?_; rintro e w2 ⟨rfl, hb2⟩; have Hb2 := Lib.hid hb2; have z1 := cell_keep Hb2.out Hk2.out c0k.out; clear hb2))
              exact ⟨⟨k + 1, by omega, by go_num, by rw [Hst.out]; simp [stp, HV.out, HD.out], by rw [Hst.out]; simp [stp, HV.out, HD.out], Hbr.out.trans (Hb2.out.mono Hbr.out.size)⟩, by simp [intOf]; omega⟩
      · obtain rfl : k = L.length := by omega
        rw [List.take_length]
        go_wp2
        go_ret2
        exact ⟨by rw [HR1'.out, HR2'.out]; rfl, Hb0.out.trans (Hbr.out.mono Hb0.out.size)⟩
/-- What First and FirstName return, whatever the kind. -/
def frsI (kind : Int) (c : Bool) (L : List Nm) : Nm × Bool := if kind = 0 then frs 0 c L else if kind = 1 then frs 1 c L else ([], false)
theorem first_any (kind : Int) (c : Bool) (p : Option Addr) (cap : Nat) (L : List Nm) (hl : L.length ≤ 60) (w : World) (hS : SL w p L) :
    Calls Try.prog 15 #[.agg #[.bool c, .slice p L.length cap], .int .i64 kind] w fun e w' => e = .returned (.tuple #[.string (toB (frsI kind c L).1), .bool (frsI kind c L).2]) ∧ Below w.heap.size w w' := by
  by_cases h0 : kind = 0
  · subst h0; exact first0_any c p cap L hl w hS
  · by_cases h1 : kind = 1
    · subst h1; exact first1_any c p cap L hl w hS
    · unfold frsI; rw [if_neg h0, if_neg h1]; exact firstN_any kind h0 h1 c p _ cap w
theorem firstName_any (kind : Int) (c : Bool) (p : Option Addr) (cap : Nat) (L : List Nm) (hl : L.length ≤ 60) (w : World) (hS : SL w p L) :
    Calls Try.prog 16 #[.agg #[.bool c, .slice p L.length cap], .int .i64 kind] w fun e w' => e = .returned (.tuple #[.string (toB (frsI kind c L).1), .bool (frsI kind c L).2]) ∧ Below w.heap.size w w' := by
  by_cases h0 : kind = 0
  · subst h0; exact firstName0_any c p cap L hl w hS
  · by_cases h1 : kind = 1
    · subst h1; exact firstName1_any c p cap L hl w hS
    · unfold frsI; rw [if_neg h0, if_neg h1]; exact firstNameN_any kind h0 h1 c p _ cap w
end Go.Proofs.Ytejiagmfinhjbaa
