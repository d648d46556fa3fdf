/-
  Walks: sound, True, False, Literal on trees.
-/
import Derived.Test.YtkppcibffbnhoaaD3
namespace Go.Proofs.Ytkppcibffbnhoaa
open Go.RowKit

theorem below_setRow {B g : Nat} {cells : Array Value} {w wr : World} (h : Below B w wr) (hg : B ≤ g) : Below B w (wr.setRow g cells) :=
  ⟨h.os, h.tape, h.output, by rw [size_setRow]; exact h.size, fun k hk => by rw [setRow_other _ _ _ _ (by omega)]; exact h.block k hk⟩
theorem DV.good {w : World} {p : Option Addr} {n cap : Nat} {r : Int} {t : T} (h : DV w (.agg #[.slice p n cap, .int .i64 r]) t) : n = (canonN t).length ∧ r = canonR t ∧ NS w p (canonN t) ∧ Good (cN (canonN t)) r := by
  obtain ⟨p', cap', e, hns⟩ := h.dd.ex
  simp only [Value.agg.injEq, Array.mk.injEq, List.cons.injEq, Value.slice.injEq, Value.int.injEq, true_and, and_true] at e
  obtain ⟨⟨rfl, rfl, rfl⟩, rfl⟩ := e
  exact ⟨rfl, rfl, hns, t, h.ok, rfl, rfl⟩
theorem valid_tree (v : Value) (t : T) (w : World) (h : DV w v t) : Calls Try.prog 11 #[v] w fun e w' => e = .returned (.bool true) ∧ Below w.heap.size w w' := by
  obtain ⟨p, cap, rfl, _⟩ := id h.dd.ex
  obtain ⟨-, -, h1, h2⟩ := h.good
  have h3 := valid_any p cap (cN (canonN t)) (canonR t) w h1.ni (by rw [cN_length]; have := canon_len h.ok; omega)
  rw [cN_length] at h3
  refine h3.mono ?_
  rintro e w' ⟨b, rfl, hb, hw⟩
  rw [hb.2 h2]
  exact ⟨rfl, hw⟩

set_option maxRecDepth 100000
set_option maxHeartbeats 4000000 in
theorem sound_tree (v : Value) (t : T) (w : World) (h : DV w v t) : Calls Try.prog 42 #[v] w fun e w' => e = .returned v ∧ Below w.heap.size w w' := by
  obtain ⟨p, cap, rfl, hns⟩ := id h.dd.ex
  have hal := ((Below.refl w.heap.size w).alloc (Nat.le_refl _) (.cells #[.slice p (canonN t).length cap, .int .i64 (canonR t)] 24)).alloc (by simp) (.cells #[.slice none 0 0, .int .i64 0] 24)
  have hv := valid_tree _ t _ (h.below hal)
  have hn := heap_alloc_new (w.alloc (.cells #[.slice p (canonN t).length cap, .int .i64 (canonR t)] 24)) (.cells #[.slice none 0 0, .int .i64 0] 24)
  have hn0 := heap_alloc_new w (.cells #[.slice p (canonN t).length cap, .int .i64 (canonR t)] 24)
  clear h hns
  generalize (canonN t).length = n at *
  generalize canonR t = r at *
  have hs : (w.alloc (.cells #[.slice p n cap, .int .i64 r] 24)).heap.size = w.heap.size + 1 := by simp
  rw [hs] at hn
  have Hs := Lib.hid hs
  have hn0' := (((Below.refl _ (w.alloc (.cells #[.slice p n cap, .int .i64 r] 24))).alloc (Nat.le_refl _) (.cells #[.slice none 0 0, .int .i64 0] 24)).block _ (by omega)).trans hn0
  clear hs hn0
  go_enter Try.func42, Try.ntmps42
  go_upto_region 1 with fail
  have Hal := Lib.hid hal; clear hal
  generalize ((w.alloc (.cells #[.slice p n cap, .int .i64 r] 24)).alloc (.cells #[.slice none 0 0, .int .i64 0] 24)) = w2 at *
  obtain ⟨c0, c1, -⟩ := cells2 hn0'
  go_upto_region 3 with (go_at_call 11; refine hv.mono ?_; rintro e w3 ⟨rfl, hb3⟩)
  have hn3 := (hb3.block _ (heap_lt hn)).trans hn
  have hn03 := (hb3.block _ (heap_lt hn0')).trans hn0'
  have Hb3 := Lib.hid hb3; clear hb3
  clear c0 c1
  obtain ⟨c0, c1, -⟩ := cells2 hn03
  have Hn3 := Lib.hid hn3; clear hn3
  clear hn hn0' hn03
  go_wp2_with (first
    | (with_reducible refine wpList_store_row rfl 24 (.tmp 2) (.tmp 7) rfl _ _ rfl rfl _ _ Hn3.out (by kernel_rfl) (by kernel_rfl) (by kernel_rfl) ?_))
  refine bodyPost_ret (results_cell_row rfl _ _ (w.heap.size + 1) 24 _ (0, 0) _ rfl (setRow_heap _ _ _ _ _ _ Hn3.out) rfl rfl (by kernel_rfl)) rfl ?_
  exact ⟨rfl, below_setRow (Hal.out.step Hb3.out) (by omega)⟩

/-- The constants. -/
theorem const_dv (w : World) (b : Bool) : DV w (.agg #[.slice none 0 0, .int .i64 ((canonR (.c b) : Nat) : Int)]) (.c b) := by
  refine ⟨trivial, ⟨none, 0, ?_, fun k hk => absurd hk (by simp [canonN, canonL, vis, nodes])⟩⟩
  rfl
set_option maxHeartbeats 4000000 in
theorem true_any (w : World) : Calls Try.prog 28 #[] w fun e w' => ∃ v, e = .returned v ∧ DV w' v (.c true) ∧ Below w.heap.size w w' := by
  have hn := heap_alloc_new w (.cells #[.slice none 0 0, .int .i64 0] 24)
  have hal := (Below.refl w.heap.size w).alloc (Nat.le_refl _) (.cells #[.slice none 0 0, .int .i64 0] 24)
  go_enter Try.func28, Try.ntmps28
  go_upto_region 1 with fail
  have Hal := Lib.hid hal; clear hal
  generalize w.alloc (.cells #[.slice none 0 0, .int .i64 0] 24) = w1 at *
  have Hn := Lib.hid hn; clear hn
  go_wp2_with (first
    | (with_reducible refine wpList_store_row rfl 24 (.tmp 0) (.tmp 1) rfl _ _ rfl rfl _ _ Hn.out (by kernel_rfl) (by kernel_rfl) (by kernel_rfl) ?_))
  refine bodyPost_ret (results_cell_row rfl _ _ w.heap.size 24 _ (0, 0) _ rfl (setRow_heap _ _ _ _ _ _ Hn.out) rfl rfl (by kernel_rfl)) rfl ?_
  exact ⟨_, rfl, const_dv _ true, below_setRow Hal.out (Nat.le_refl _)⟩
set_option maxHeartbeats 4000000 in
theorem false_any (w : World) : Calls Try.prog 47 #[] w fun e w' => ∃ v, e = .returned v ∧ DV w' v (.c false) ∧ Below w.heap.size w w' := by
  have hn := heap_alloc_new w (.cells #[.slice none 0 0, .int .i64 0] 24)
  have hal := (Below.refl w.heap.size w).alloc (Nat.le_refl _) (.cells #[.slice none 0 0, .int .i64 0] 24)
  go_enter Try.func47, Try.ntmps47
  go_upto_region 1 with fail
  have Hal := Lib.hid hal; clear hal
  generalize w.alloc (.cells #[.slice none 0 0, .int .i64 0] 24) = w1 at *
  have Hn := Lib.hid hn; clear hn
  go_wp2_with (first
    | (with_reducible refine wpList_store_row rfl 24 (.tmp 0) (.tmp 1) rfl _ _ rfl rfl _ _ Hn.out (by kernel_rfl) (by kernel_rfl) (by kernel_rfl) ?_))
  refine bodyPost_ret (results_cell_row rfl _ _ w.heap.size 24 _ (0, 0) _ rfl (setRow_heap _ _ _ _ _ _ Hn.out) rfl rfl (by kernel_rfl)) rfl ?_
  exact ⟨_, rfl, const_dv _ false, below_setRow Hal.out (Nat.le_refl _)⟩
end Go.Proofs.Ytkppcibffbnhoaa
