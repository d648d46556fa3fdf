/-
  Walks: valid keys.
-/
import Derived.Test.YtejiagmfinhjbaaNb
import Derived.Below
namespace Go.Proofs.Ytejiagmfinhjbaa
open Go.RowKit Go.Ident

set_option maxRecDepth 100000 in
set_option maxHeartbeats 8000000 in
theorem validKey_any (k : Int) (s : ByteArray) (w : World) : Calls Try.prog 34 #[.agg #[.int .i64 k, .string s]] w fun e w' => e = .returned (.bool (valK k s.data.toList)) ∧ Below w.heap.size w w' := by
  have hB := (Below.refl w.heap.size w).alloc (Nat.le_refl _) (.cells #[.int .i64 k, .string s] 36)
  have HB := Lib.hid hB; clear hB
  unfold valK
  by_cases h0 : k = 0
  · subst h0
    go_enter Try.func34, Try.ntmps34
    go_wp2_with (first
      | (go_at_call 49; refine (isAtom_any s _).mono ?_; rintro e w1 ⟨rfl, rfl⟩))
    go_ret
    exact ⟨rfl, HB.out⟩
  rw [if_neg h0]
  have d0 : (k == 0) = false := by simpa using h0
  by_cases h1 : k = 1
  · subst h1
    rw [if_pos rfl]
    have hl : s.data.toList.length = s.size := by show _ = s.data.size; simp
    rw [hl]
    go_enter Try.func34, Try.ntmps34
    go_wp2
    go_ret
    refine ⟨?_, HB.out⟩
    by_cases hs : s.size ≤ 64
    · simp [hs]; omega
    · simp [hs]; omega
  rw [if_neg h1]
  have d1 : (k == 1) = false := by simpa using h1
  go_enter Try.func34, Try.ntmps34
  go_wp2
  go_ret
  exact ⟨rfl, HB.out⟩

set_option maxRecDepth 100000 in
set_option maxHeartbeats 8000000 in
theorem refValidKey_any (k : Int) (s : ByteArray) (w : World) : Calls Try.prog 17 #[.agg #[.int .i64 k, .string s]] w fun e w' => e = .returned (.bool (valK k s.data.toList)) ∧ Below w.heap.size w w' := by
  have hB := (Below.refl w.heap.size w).alloc (Nat.le_refl _) (.cells #[.int .i64 k, .string s] 36)
  have HB := Lib.hid hB; clear hB
  unfold valK
  by_cases h0 : k = 0
  · subst h0
    rw [if_pos rfl]
    have t := isAtm s.data.toList
    cases hc : isAtm s.data.toList with
    | true =>
      have t := refIsAtom_any s; rw [hc] at t
      go_enter Try.func17, Try.ntmps17
      go_wp2_with (first
        | (go_at_call 38; refine (t _).mono ?_; rintro e w1 ⟨rfl, rfl⟩))
      go_ret
      exact ⟨rfl, HB.out⟩
    | false =>
      have t := refIsAtom_any s; rw [hc] at t
      go_enter Try.func17, Try.ntmps17
      go_wp2_with (first
        | (go_at_call 38; refine (t _).mono ?_; rintro e w1 ⟨rfl, rfl⟩))
      go_ret
      exact ⟨rfl, HB.out⟩
  rw [if_neg h0]
  have d0 : (k == 0) = false := by simpa using h0
  by_cases h1 : k = 1
  · subst h1
    rw [if_pos rfl]
    have hl : s.data.toList.length = s.size := by show _ = s.data.size; simp
    rw [hl]
    go_enter Try.func17, Try.ntmps17
    go_wp2
    go_ret
    refine ⟨?_, HB.out⟩
    by_cases hs : s.size ≤ 64
    · simp [hs]; omega
    · simp [hs]; omega
  rw [if_neg h1]
  have d1 : (k == 1) = false := by simpa using h1
  go_enter Try.func17, Try.ntmps17
  go_wp2
  go_ret
  exact ⟨rfl, HB.out⟩
end Go.Proofs.Ytejiagmfinhjbaa
