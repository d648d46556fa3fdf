/-
  Walks of the check sums: the sums.
-/
import Derived.Test.YtmflngpgmmgohaaSb
namespace Go.Proofs.Ytmflngpgmmgohaa
open Go.RowKit

theorem not_u32 (r : Nat) (hr : r < 4294967296) : 4294967295 ^^^ r = 4294967295 - r := by
  have h := congrArg BitVec.toNat (BitVec.allOnes_xor (x := BitVec.ofNat 32 r))
  rw [BitVec.toNat_xor, BitVec.toNat_not, BitVec.toNat_allOnes, BitVec.toNat_ofNat, Nat.mod_eq_of_lt (by omega : r < 2 ^ 32)] at h
  simpa using h
theorem bits_not_u32 (r : Nat) (hr : r < 4294967296) : bits .xor .u32 IntKind.u32.max (r : Int) = ((4294967295 - r : Nat) : Int) := by
  rw [← not_u32 r hr, ← bits_xor_u32 _ r (by omega) hr]; rfl
theorem crc_take_succ (s : ByteArray) (k : Nat) (h : k < s.size) (c : Nat) : crcFold (s.data.toList.take (k + 1)) c = stN 8 (crcFold (s.data.toList.take k) c ^^^ s[k].toNat) := by
  rw [List.take_succ_eq_append_getElem (by simpa using h), crcFold_append]
  rfl
theorem crc_take_all (s : ByteArray) (c : Nat) : crcFold (s.data.toList.take s.size) c = crcFold s.data.toList c := by
  rw [List.take_of_length_le (by show s.data.toList.length ≤ s.data.size; simp)]

theorem crc_table (c b : Nat) (hb : b < 256) : c / 256 ^^^ stN 8 ((c % 256) ^^^ b) = stN 8 (c ^^^ b) := by
  have h1 := crc_byte (c ^^^ b)
  have h2 : (c ^^^ b) / 256 = c / 256 := by
    have := Nat.shiftRight_xor_distrib (a := c) (b := b) (i := 8)
    simp only [Nat.shiftRight_eq_div_pow] at this
    rw [show (2 : Nat) ^ 8 = 256 from rfl] at this
    rw [this, Nat.div_eq_of_lt hb, Nat.xor_zero]
  have h3 : (c ^^^ b) % 256 = (c % 256) ^^^ b := by
    have := Nat.xor_mod_two_pow (a := c) (b := b) (n := 8)
    rw [show (2 : Nat) ^ 8 = 256 from rfl] at this
    rw [this, Nat.mod_eq_of_lt hb]
  rw [h1, h2, h3]

/-- The table of the sums lies at the block that the call has made last. -/
structure SInv (w : World) (g : Nat) (wr : World) : Prop where
  blk : wr.heap[g]? = some (.cells (tab 256) 116)
  below : Below w.heap.size w wr
theorem SInv.start {w w1 : World} (h : Below w.heap.size w w1) : SInv w w1.heap.size ((w1.alloc (Obj.cells Try.zeroCells116 116)).setRow w1.heap.size (tab 256)) := by
  refine ⟨setRow_heap _ _ _ _ _ _ (heap_alloc_new _ _), h.os, h.tape, h.output, ?_, fun b hb => ?_⟩
  · have := h.size
    rw [size_setRow]; simp; omega
  · have := h.size
    rw [setRow_other _ _ _ _ (by omega), heap_alloc_old _ _ (by omega), h.block b hb]
theorem SInv.cell {w wr : World} {g : Nat} (h : SInv w g wr) {i : Nat} (hi : i < 256) : wr.cell? ⟨g, i, none⟩ = some (.int .u32 (stN 8 i)) := by
  rw [cell_of_row _ _ _ _ _ _ h.blk, tab_get _ _ hi, if_pos hi]

set_option maxRecDepth 100000 in
set_option maxHeartbeats 8000000 in
theorem sum_any (s : ByteArray) (hs : s.size ≤ 1048576) (w : World) :
    Calls Try.prog 72 #[.string s] w fun e w' => e = .returned (.int .u32 (crc s.data.toList)) ∧ Below w.heap.size w w' := by
  go_enter Try.func72, Try.ntmps72
  go_wp2_with (first
    | (with_reducible refine Lex.wp_region_lex (by kernel_rfl) (by decide +kernel) ?_)
    | (with_reducible refine Lex.fin_on (by kernel_rfl) ?_)
    | (go_at_call 81; refine (table_any _).mono ?_; rintro e w1 ⟨rfl, hb1⟩)
    | (with_reducible refine wpList_store_row rfl 116 (.tmp 3) (.tmp 6) rfl _ _ rfl rfl _ _ (heap_alloc_new _ _) (by kernel_rfl) (by kernel_rfl) (by kernel_rfl) ?_))
  have Hw := Lib.hid (SInv.start hb1)
  go_loop [4, 9] (fun r i => ∃ k : Nat, k ≤ s.size ∧ i = .int .i64 k ∧ r = .int .u32 (crcFold (s.data.toList.take k) 4294967295)) (fun _ i => s.size - (intOf i).toNat)
  case atStart => exact ⟨0, by omega, rfl, rfl⟩
  case round =>
    obtain ⟨k, hk, rfl, rfl⟩ := hrel
    have hr : crcFold (s.data.toList.take k) 4294967295 < 4294967296 := crcFold_lt _ (by omega)
    by_cases hlt : k < s.size
    · have hsu := Lib.hid (crc_take_succ s k hlt 4294967295)
      generalize hR : crcFold (s.data.toList.take k) 4294967295 = r at *
      have HR := Lib.hid hR; clear hR
      have hb := s[k].toNat_lt
      have hi : (r % 256) ^^^ s[k].toNat < 256 := Nat.xor_lt_two_pow (n := 8) (by omega) (by omega)
      have hx : bits .xor .u8 ((r : Int) % 256) (s[k].toNat : Int) = (((r % 256) ^^^ s[k].toNat : Nat) : Int) := bits_xor_u8 (r % 256) _ (by omega) (by omega)
      have hc := Hw.out.cell hi
      have hst := stN_lt 8 (c := (r % 256) ^^^ s[k].toNat) (by omega)
      have hx2 : bits .xor .u32 ((r : Int) / 256) (stN 8 ((r % 256) ^^^ s[k].toNat)) = ((stN 8 (r ^^^ s[k].toNat) : Nat) : Int) := by
        rw [← crc_table r _ (by omega)]; exact bits_xor_u32 (r / 256) _ (by omega) hst
      clear hst
      go_wp2_with (first
        | (with_reducible refine Lex.wp_region_lex (by kernel_rfl) (by decide +kernel) ?_)
        | (with_reducible refine Lex.fin_on (by kernel_rfl) ?_))
      exact ⟨⟨k + 1, by omega, by go_num, by rw [hsu.out]⟩, by simp [intOf]; omega⟩
    · obtain rfl : k = s.size := by omega
      rw [crc_take_all] at *
      have hx := bits_not_u32 _ hr
      go_wp2
      go_ret
      exact ⟨rfl, Hw.out.below⟩

set_option maxRecDepth 100000 in
set_option maxHeartbeats 8000000 in
theorem refsum_any (s : ByteArray) (hs : s.size ≤ 1048576) (w : World) :
    Calls Try.prog 58 #[.string s] w fun e w' => e = .returned (.int .u32 (crc s.data.toList)) ∧ w' = w := by
  go_enter Try.func58, Try.ntmps58
  go_wp2
  go_loop [3, 4] (fun r i => ∃ k : Nat, k ≤ s.size ∧ i = .int .i64 k ∧ r = .int .u32 (crcFold (s.data.toList.take k) 4294967295)) (fun _ i => s.size - (intOf i).toNat)
  case atStart => exact ⟨0, by omega, rfl, rfl⟩
  case round =>
    obtain ⟨k, hk, rfl, rfl⟩ := hrel
    have hr : crcFold (s.data.toList.take k) 4294967295 < 4294967296 := crcFold_lt _ (by omega)
    by_cases hlt : k < s.size
    · have hsu := Lib.hid (crc_take_succ s k hlt 4294967295)
      generalize hR : crcFold (s.data.toList.take k) 4294967295 = r at *
      have HR := Lib.hid hR; clear hR
      have hb := s[k].toNat_lt
      have hx : bits .xor .u32 (r : Int) ((s[k].toNat : Int) % 4294967296) = ((r ^^^ s[k].toNat : Nat) : Int) := by
        rw [show ((s[k].toNat : Int) % 4294967296) = ((s[k].toNat : Nat) : Int) by omega]
        exact bits_xor_u32 r _ hr (by omega)
      have hx' : bits .xor .u32 (r : Int) (s[k].toNat : Int) = ((r ^^^ s[k].toNat : Nat) : Int) := bits_xor_u32 r _ hr (by omega)
      go_wp2
      go_loop [3, 5] (fun v j => ∃ q : Nat, q ≤ 8 ∧ j = .int .i64 q ∧ v = .int .u32 (stN q (r ^^^ s[k].toNat))) (fun _ j => 8 - (intOf j).toNat)
      case atStart => exact ⟨0, by omega, rfl, by first | rfl | (simp only [hx']; rfl)⟩
      case round =>
        obtain ⟨q, hq, rfl, rfl⟩ := hrel
        have Hs := Lib.hid (stN_succ q (r ^^^ s[k].toNat))
        have hr2 : stN q (r ^^^ s[k].toNat) < 4294967296 := stN_lt q (Nat.xor_lt_two_pow (n := 32) (by omega) (by omega))
        generalize hR2 : stN q (r ^^^ s[k].toNat) = x at *
        have HR2 := Lib.hid hR2; clear hR2 hx hx'
        by_cases hq8 : q < 8
        · have hx2 : bits .xor .u32 ((x / 2 : Nat) : Int) 2197175160 = ((x / 2 ^^^ crcP : Nat) : Int) := bits_xor_u32 _ crcP (by omega) (by decide)
          have ha : bits .and .u32 (x : Int) 1 = ((x % 2 : Nat) : Int) := by rw [← and_one]; exact bits_and_u32 x 1 hr2 (by omega)
          by_cases h2 : x % 2 = 1
          · have hd : (bits .and .u32 (x : Int) 1 == 1) = true := by rw [ha, h2]; rfl
            clear ha
            go_wp2
            refine ⟨⟨q + 1, by omega, by go_num, ?_⟩, by simp [intOf]; omega⟩
            rw [Hs.out, st, if_pos h2, ← hx2]
            simp
          · have hd : (bits .and .u32 (x : Int) 1 == 1) = false := by rw [ha, show x % 2 = 0 by omega]; rfl
            clear ha
            go_wp2
            refine ⟨⟨q + 1, by omega, by go_num, ?_⟩, by simp [intOf]; omega⟩
            rw [Hs.out, st, if_neg h2]
            simp
        · obtain rfl : q = 8 := by omega
          go_wp2
          refine ⟨⟨k + 1, by omega, by go_num, ?_⟩, by simp [intOf]; omega⟩
          rw [hsu.out, HR2.out]
    · obtain rfl : k = s.size := by omega
      rw [crc_take_all] at *
      have hx := bits_not_u32 _ hr
      go_wp2
      go_ret
      exact ⟨rfl, rfl⟩
end Go.Proofs.Ytmflngpgmmgohaa
