/-
  Walks: awake.
-/
import Derived.Test.YtejiagmfinhjbaaDoorIh
namespace Go.Proofs.YtejiagmfinhjbaaDoor
open Go.RowKit Go.Ident

theorem below_trans {w a b : World} (h : Below w.heap.size w a) (k : Below a.heap.size a b) : Below w.heap.size w b := h.trans (k.mono h.size)
theorem below_alloc {w a : World} (h : Below w.heap.size w a) (o : Obj) : Below w.heap.size w (a.alloc o) := h.alloc h.size o

theorem strs_one {s : ByteArray} (w : World) (hs : s.size ≤ maxLen) : Strs (w.alloc (.cells #[.string s] 9)) (some ⟨w.heap.size, 0, none⟩) [s] := by
  refine ⟨fun i h => ⟨w.heap.size, 0, rfl, by simp, ?_⟩, fun i h => ?_⟩
  · obtain rfl : i = 0 := by simp at h; omega
    exact cell_of_row _ _ _ _ _ _ (heap_alloc_new _ _)
  · obtain rfl : i = 0 := by simp at h; omega
    exact hs

set_option maxRecDepth 100000 in
set_option maxHeartbeats 8000000 in
theorem awake_any (w : World) : Calls Tryd.prog 16 #[] w fun e w' => e = .returned (.bool true) ∧ Below w.heap.size w w' := by
  have hP := parseKey_any ⟨#[111, 107]⟩ (by decide)
  have hp : parR ⟨#[111, 107]⟩ = .returned (.tuple #[.agg #[.int .i64 0, .string ⟨#[111, 107]⟩], .int .i64 0]) := by
    unfold parR
    rw [show parK (⟨#[111, 107]⟩ : ByteArray).data.toList = some (0, [111, 107]) by decide +kernel]
  rw [hp] at hP
  have hA := isAtom_any ⟨#[97, 95, 49]⟩
  rw [show isAtm (⟨#[97, 95, 49]⟩ : ByteArray).data.toList = true by decide +kernel] at hA
  have hB := isAtom_any ⟨#[65]⟩
  rw [show isAtm (⟨#[65]⟩ : ByteArray).data.toList = false by decide +kernel] at hB
  have hC := isVariable_any ⟨#[65, 95, 98]⟩
  rw [show isVrb (⟨#[65, 95, 98]⟩ : ByteArray).data.toList = true by decide +kernel] at hC
  have hQ := quote_any ⟨#[97]⟩ (by decide)
  rw [show (⟨(quo (⟨#[97]⟩ : ByteArray).data.toList).toArray⟩ : ByteArray) = ⟨#[34, 97, 34]⟩ by decide +kernel] at hQ
  have hF := fun w g h => freshAtom_any (some ⟨g, 0, none⟩) 1 [⟨#[97]⟩] (by decide) w h
  rw [show (⟨(fre 0 (bys [⟨#[97]⟩])).toArray⟩ : ByteArray) = ⟨#[98]⟩ by decide +kernel] at hF
  have hse : ∀ w, (binOp .eql 23 (.agg #[.int .i64 0, .string ⟨#[111, 107]⟩]) (.agg #[.int .i64 0, .string ⟨#[111, 107]⟩])).run Tryd.prog w = .ok (.bool true) w := fun _ => by kernel_rfl
  clear hp
  go_enter Tryd.func16, Tryd.ntmps16
  go_wp2_with (first
    | (go_at_call 24; refine (hP _).mono ?_; rintro e w1 ⟨rfl, hb1⟩; have Hb1 := Lib.hid hb1; clear hb1)
    | (go_at_call 10; first
        | (with_reducible refine (hA _).mono ?_; rintro e w2 ⟨rfl, rfl⟩)
        | (with_reducible refine (hB _).mono ?_; rintro e w3 ⟨rfl, rfl⟩))
    | (go_at_call 12; refine (hC _).mono ?_; rintro e w4 ⟨rfl, rfl⟩)
    | (go_at_call 17; refine (hQ _).mono ?_; rintro e w5 ⟨rfl, hb5⟩; have Hb5 := Lib.hid hb5; clear hb5)
    | (go_at_call 21; refine (hF _ _ (strs_one _ (by unfold maxLen; decide))).mono ?_; rintro e w6 ⟨rfl, hb6⟩; have Hb6 := Lib.hid hb6; clear hb6))
  go_ret
  exact ⟨rfl, below_trans (below_alloc (below_trans (below_alloc Hb1.out _) Hb5.out) _) Hb6.out⟩
end Go.Proofs.YtejiagmfinhjbaaDoor
