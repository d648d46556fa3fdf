/-
  Walks of the check sums.
-/
import Derived.Test.YtmflngpgmmgohaaSa
import Derived.Laws.Tables
namespace Go.Proofs.Ytmflngpgmmgohaa
open Go.RowKit

theorem wrap_u32 (n : Int) : IntKind.u32.wrap n = n % 4294967296 := by simp [IntKind.wrap, IntKind.bits, IntKind.signed]
theorem wrap_u8 (n : Int) : IntKind.u8.wrap n = n % 256 := by simp [IntKind.wrap, IntKind.bits, IntKind.signed]
theorem bits_xor_u32 (a b : Nat) (ha : a < 4294967296) (hb : b < 4294967296) : bits .xor .u32 (a : Int) (b : Int) = ((a ^^^ b : Nat) : Int) := by
  have hx : a ^^^ b < 2 ^ 32 := Nat.xor_lt_two_pow (by omega) (by omega)
  have h1 : (BitVec.ofInt 32 (a : Int)).toNat = a := by
    rw [BitVec.ofInt_natCast, BitVec.toNat_ofNat]; exact Nat.mod_eq_of_lt (by omega)
  have h2 : (BitVec.ofInt 32 (b : Int)).toNat = b := by
    rw [BitVec.ofInt_natCast, BitVec.toNat_ofNat]; exact Nat.mod_eq_of_lt (by omega)
  show IntKind.u32.wrap ((BitVec.ofInt 32 (a : Int) ^^^ BitVec.ofInt 32 (b : Int)).toNat : Int) = _
  rw [BitVec.toNat_xor, h1, h2, wrap_u32]
  omega
theorem bits_and_u32 (a b : Nat) (ha : a < 4294967296) (hb : b < 4294967296) : bits .and .u32 (a : Int) (b : Int) = ((a &&& b : Nat) : Int) := by
  have hx : a &&& b < 2 ^ 32 := Nat.and_lt_two_pow _ (by omega)
  have h1 : (BitVec.ofInt 32 (a : Int)).toNat = a := by
    rw [BitVec.ofInt_natCast, BitVec.toNat_ofNat]; exact Nat.mod_eq_of_lt (by omega)
  have h2 : (BitVec.ofInt 32 (b : Int)).toNat = b := by
    rw [BitVec.ofInt_natCast, BitVec.toNat_ofNat]; exact Nat.mod_eq_of_lt (by omega)
  show IntKind.u32.wrap ((BitVec.ofInt 32 (a : Int) &&& BitVec.ofInt 32 (b : Int)).toNat : Int) = _
  rw [BitVec.toNat_and, h1, h2, wrap_u32]
  omega
theorem bits_xor_u8 (a b : Nat) (ha : a < 256) (hb : b < 256) : bits .xor .u8 (a : Int) (b : Int) = ((a ^^^ b : Nat) : Int) := by
  have hx : a ^^^ b < 2 ^ 8 := Nat.xor_lt_two_pow (by omega) (by omega)
  have h1 : (BitVec.ofInt 8 (a : Int)).toNat = a := by
    rw [BitVec.ofInt_natCast, BitVec.toNat_ofNat]; exact Nat.mod_eq_of_lt (by omega)
  have h2 : (BitVec.ofInt 8 (b : Int)).toNat = b := by
    rw [BitVec.ofInt_natCast, BitVec.toNat_ofNat]; exact Nat.mod_eq_of_lt (by omega)
  show IntKind.u8.wrap ((BitVec.ofInt 8 (a : Int) ^^^ BitVec.ofInt 8 (b : Int)).toNat : Int) = _
  rw [BitVec.toNat_xor, h1, h2, wrap_u8]
  omega
theorem stN_succ (n : Nat) : ∀ c, stN (n + 1) c = st (stN n c) := by
  induction n with
  | zero => intro c; rfl
  | succ n ih => intro c; rw [show stN (n + 1 + 1) c = stN (n + 1) (st c) from rfl, ih]; rfl
theorem and_one (r : Nat) : r &&& 1 = r % 2 := Nat.and_one_is_mod r

def tab (k : Nat) : Array Value := Array.ofFn (n := 256) fun i => if i.1 < k then .int .u32 (stN 8 i.1) else .int .u32 0
theorem tab_size (k : Nat) : (tab k).size = 256 := by simp [tab]
theorem tab_get (k i : Nat) (h : i < 256) : (tab k)[i]? = some (if i < k then .int .u32 (stN 8 i) else .int .u32 0) := by simp [tab, h]
theorem tab_succ {k : Nat} (h : k < 256) : (tab k).setIfInBounds k (.int .u32 (stN 8 k)) = tab (k + 1) := by
  apply Array.ext_getElem?
  intro i
  rw [Array.getElem?_setIfInBounds]
  by_cases hi : i < 256
  · rw [tab_get k i hi, tab_get (k + 1) i hi]
    by_cases hk : k = i
    · subst hk; simp [tab_size, h]
    · rw [if_neg hk]
      by_cases h2 : i < k
      · rw [if_pos h2, if_pos (by omega)]
      · rw [if_neg h2, if_neg (by omega)]
  · have h1 : (tab k)[i]? = none := Array.getElem?_eq_none (by simp [tab_size]; omega)
    have h2 : (tab (k + 1))[i]? = none := Array.getElem?_eq_none (by simp [tab_size]; omega)
    rw [h1, h2]
    by_cases hk : k = i
    · omega
    · rw [if_neg hk]
theorem tab_zero : Try.zeroCells116 = tab 0 := by kernel_rfl

structure TInv (w : World) (k : Nat) (wr : World) : Prop where
  upd : Upd (w.heap.size + 1) (.cells (tab k) 116) ((w.alloc (.cells (tab 0) 116)).alloc (.cells (tab 0) 116)) wr
theorem TInv.start (w : World) : TInv w 0 ((w.alloc (.cells (tab 0) 116)).alloc (.cells (tab 0) 116)) := ⟨Upd.refl (heap_alloc2_new _ _ _)⟩
theorem TInv.cell {w wr : World} {k : Nat} (h : TInv w k wr) {i : Nat} (hi : i < 256) : wr.cell? ⟨w.heap.size + 1, i, none⟩ = some (if i < k then .int .u32 (stN 8 i) else .int .u32 0) := by
  rw [cell_of_row _ _ _ _ _ _ h.upd.blk]; exact tab_get k i hi
theorem TInv.frozen {w wr : World} {k : Nat} (h : TInv w k wr) (i : Nat) : wr.frozen? ⟨w.heap.size + 1, i, none⟩ = false := by
  simp [World.frozen?, h.upd.blk]
theorem TInv.next {w wr : World} {k : Nat} (h : TInv w k wr) (hk : k < 256) : TInv w (k + 1) (wr.setCell ⟨w.heap.size + 1, k, none⟩ (.int .u32 (stN 8 k))) :=
  ⟨Upd.cast (h.upd.set (i := k)) (by rw [tab_succ hk])⟩

theorem TInv.below {w wr : World} {k : Nat} (h : TInv w k wr) (cs : Array Value) : Below w.heap.size w (wr.setRow w.heap.size cs) := by
  have hu := h.upd
  refine ⟨hu.os, hu.tape, hu.output, ?_, fun b hb => ?_⟩
  · rw [size_setRow, hu.size]; simp; omega
  · rw [setRow_other _ _ _ _ (by omega), hu.other b (by omega), heap_alloc_old _ _ (by simp; omega), heap_alloc_old _ _ hb]

set_option maxRecDepth 100000 in
set_option maxHeartbeats 8000000 in
theorem table_any (w : World) :
    Calls Try.prog 81 #[] w fun e w' => e = .returned (.agg (tab 256)) ∧ Below w.heap.size w w' := by
  go_enter Try.func81, Try.ntmps81
  go_wp2
  go_loopw [4] (fun i wr => ∃ k : Nat, k ≤ 256 ∧ i = .int .i64 k ∧ TInv w k wr) (fun i _ => 256 - (intOf i).toNat)
  case atStart => exact ⟨0, by omega, rfl, by rw [tab_zero]; exact TInv.start w⟩
  case round =>
    obtain ⟨k, hk, rfl, hinv⟩ := hrel
    by_cases hlt : k < 256
    · have hc := hinv.cell hlt
      have hf := hinv.frozen k
      rw [if_neg (by omega)] at hc
      have Hinv := Lib.hid hinv; clear hinv
      go_wp2
      go_loop [3, 9] (fun r j => ∃ q : Nat, q ≤ 8 ∧ j = .int .i64 q ∧ r = .int .u32 (stN q k)) (fun _ j => 8 - (intOf j).toNat)
      case atStart => exact ⟨0, by omega, rfl, rfl⟩
      case round =>
        obtain ⟨q, hq, rfl, rfl⟩ := hrel
        have hs := stN_succ q k
        have hr : stN q k < 4294967296 := stN_lt q (by omega)
        have Hs := Lib.hid hs; clear hs
        generalize hR : stN q k = r at *
        have HR := Lib.hid hR; clear hR
        by_cases hq8 : q < 8
        · have ha : bits .and .u32 (r : Int) 1 = ((r % 2 : Nat) : Int) := by rw [← and_one]; exact bits_and_u32 r 1 hr (by omega)
          have hx : bits .xor .u32 ((r / 2 : Nat) : Int) 2197175160 = ((r / 2 ^^^ crcP : Nat) : Int) := bits_xor_u32 _ crcP (by omega) (by decide)
          by_cases h2 : r % 2 = 1
          · go_wp2
            refine ⟨⟨q + 1, by omega, by go_num, ?_⟩, by simp [intOf]; omega⟩
            rw [Hs.out, st, if_pos h2, ← hx]
            simp
          · go_wp2
            refine ⟨⟨q + 1, by omega, by go_num, ?_⟩, by simp [intOf]; omega⟩
            rw [Hs.out, st, if_neg h2]
            simp
        · obtain rfl : q = 8 := by omega
          go_wp2
          refine ⟨⟨k + 1, by omega, by go_num, ?_⟩, by simp [intOf]; omega⟩
          rw [← HR.out]
          exact Hinv.out.next hlt
    · obtain rfl : k = 256 := by omega
      have Hinv := Lib.hid hinv; clear hinv
      go_wp2_with (first
        | (with_reducible refine wpList_load_row rfl 116 (.tmp 1) rfl _ rfl _ (tab 256) (0, 0) _ Hinv.out.upd.blk rfl rfl (by kernel_rfl) ?_)
        | (with_reducible refine wpList_store_row rfl 116 (.tmp 0) (.tmp 24) rfl _ _ rfl rfl _ _ ((Hinv.out.upd.other _ (by omega)).trans (heap_alloc2_old _ _ _)) (by kernel_rfl) (by kernel_rfl) (by kernel_rfl) ?_))
      have h1 := (Hinv.out.upd.other w.heap.size (by omega)).trans (heap_alloc2_old w (.cells (tab 0) 116) (.cells (tab 0) 116))
      refine ⟨rfl, _, results_cell_row rfl _ _ w.heap.size 116 (tab 256) (0, 0) _ rfl (setRow_heap wr w.heap.size _ _ _ _ h1) rfl rfl (by kernel_rfl), rfl, ?_⟩
      exact TInv.below Hinv.out _
end Go.Proofs.Ytmflngpgmmgohaa
