/-
  Walks: classes of bytes.
-/
import Derived.Test.YtejiagmfinhjbaaChecked
import Derived.Test.YtejiagmfinhjbaaGuard
import Derived.Test.YtejiagmfinhjbaaFrl
namespace Go.Proofs.Ytejiagmfinhjbaa
open Go.RowKit Go.Ident

set_option maxRecDepth 100000 in
theorem lower_any (c : UInt8) (w : World) : Calls Try.prog 63 #[.int .u8 c.toNat] w fun e w' => e = .returned (.bool (isLo c)) ∧ w' = w := by
  unfold isLo
  simp only [UInt8.le_iff_toNat_le]
  by_cases h1 : 97 ≤ c.toNat
  · by_cases h2 : c.toNat ≤ 122
    · have d1 : decide ((c.toNat : Int) ≥ 97) = true := by simp; omega
      have d2 : decide ((c.toNat : Int) ≤ 122) = true := by simp; omega
      go_enter Try.func63, Try.ntmps63
      go_wp2
      go_ret
      simp [h1, h2]
    · have d1 : decide ((c.toNat : Int) ≥ 97) = true := by simp; omega
      have d2 : decide ((c.toNat : Int) ≤ 122) = false := by simp; omega
      go_enter Try.func63, Try.ntmps63
      go_wp2
      go_ret
      simp [h1, h2]
  · have d1 : decide ((c.toNat : Int) ≥ 97) = false := by simp; omega
    go_enter Try.func63, Try.ntmps63
    go_wp2
    go_ret
    simp [h1]

set_option maxRecDepth 100000 in
theorem digit_any (c : UInt8) (w : World) : Calls Try.prog 65 #[.int .u8 c.toNat] w fun e w' => e = .returned (.bool (isDi c)) ∧ w' = w := by
  unfold isDi
  simp only [UInt8.le_iff_toNat_le]
  by_cases h1 : 48 ≤ c.toNat
  · by_cases h2 : c.toNat ≤ 57
    · have d1 : decide ((c.toNat : Int) ≥ 48) = true := by simp; omega
      have d2 : decide ((c.toNat : Int) ≤ 57) = true := by simp; omega
      go_enter Try.func65, Try.ntmps65
      go_wp2
      go_ret
      simp [h1, h2]
    · have d1 : decide ((c.toNat : Int) ≥ 48) = true := by simp; omega
      have d2 : decide ((c.toNat : Int) ≤ 57) = false := by simp; omega
      go_enter Try.func65, Try.ntmps65
      go_wp2
      go_ret
      simp [h1, h2]
  · have d1 : decide ((c.toNat : Int) ≥ 48) = false := by simp; omega
    go_enter Try.func65, Try.ntmps65
    go_wp2
    go_ret
    simp [h1]

set_option maxRecDepth 100000 in
theorem rlower_any (c : UInt8) (w : World) : Calls Try.prog 54 #[.int .u8 c.toNat] w fun e w' => e = .returned (.bool (isLo c)) ∧ w' = w := by
  unfold isLo
  simp only [UInt8.le_iff_toNat_le]
  by_cases h1 : 97 ≤ c.toNat
  · by_cases h2 : c.toNat ≤ 122
    · have d1 : decide ((c.toNat : Int) ≥ 97) = true := by simp; omega
      have d2 : decide ((c.toNat : Int) ≤ 122) = true := by simp; omega
      go_enter Try.func54, Try.ntmps54
      go_wp2
      go_ret
      simp [h1, h2]
    · have d1 : decide ((c.toNat : Int) ≥ 97) = true := by simp; omega
      have d2 : decide ((c.toNat : Int) ≤ 122) = false := by simp; omega
      go_enter Try.func54, Try.ntmps54
      go_wp2
      go_ret
      simp [h1, h2]
  · have d1 : decide ((c.toNat : Int) ≥ 97) = false := by simp; omega
    go_enter Try.func54, Try.ntmps54
    go_wp2
    go_ret
    simp [h1]

set_option maxRecDepth 100000 in
theorem rdigit_any (c : UInt8) (w : World) : Calls Try.prog 55 #[.int .u8 c.toNat] w fun e w' => e = .returned (.bool (isDi c)) ∧ w' = w := by
  unfold isDi
  simp only [UInt8.le_iff_toNat_le]
  by_cases h1 : 48 ≤ c.toNat
  · by_cases h2 : c.toNat ≤ 57
    · have d1 : decide ((c.toNat : Int) ≥ 48) = true := by simp; omega
      have d2 : decide ((c.toNat : Int) ≤ 57) = true := by simp; omega
      go_enter Try.func55, Try.ntmps55
      go_wp2
      go_ret
      simp [h1, h2]
    · have d1 : decide ((c.toNat : Int) ≥ 48) = true := by simp; omega
      have d2 : decide ((c.toNat : Int) ≤ 57) = false := by simp; omega
      go_enter Try.func55, Try.ntmps55
      go_wp2
      go_ret
      simp [h1, h2]
  · have d1 : decide ((c.toNat : Int) ≥ 48) = false := by simp; omega
    go_enter Try.func55, Try.ntmps55
    go_wp2
    go_ret
    simp [h1]

theorem eq95 (c : UInt8) : (c = 95) = (c.toNat = 95) := by
  apply propext
  constructor
  · rintro rfl; rfl
  · intro h; exact UInt8.toNat_inj.1 h
theorem deq95 (c : UInt8) : ((c.toNat : Int) == 95) = decide (c = 95) := by
  simp only [eq95]
  by_cases h : c.toNat = 95
  · simp [h]
  · simp [h]; omega

set_option maxRecDepth 100000 in
theorem aOther_any (c : UInt8) (w : World) : Calls Try.prog 64 #[.int .u8 c.toNat] w fun e w' => e = .returned (.bool (aOther c)) ∧ w' = w := by
  unfold aOther
  have d0 := deq95 c

  cases b0 : isLo c with
  | true =>
    have t0 := lower_any c; rw [b0] at t0
    go_enter Try.func64, Try.ntmps64
    go_wp2_with (first
      | (go_at_call 63; refine (t0 _).mono ?_; rintro e w1 ⟨rfl, rfl⟩))
    go_ret
    simp
  | false =>
    have t0 := lower_any c; rw [b0] at t0
    cases b1 : isDi c with
    | true =>
      have t1 := digit_any c; rw [b1] at t1
      go_enter Try.func64, Try.ntmps64
      go_wp2_with (first
        | (go_at_call 63; refine (t0 _).mono ?_; rintro e w1 ⟨rfl, rfl⟩)
        | (go_at_call 65; refine (t1 _).mono ?_; rintro e w1 ⟨rfl, rfl⟩))
      go_ret
      simp
    | false =>
      have t1 := digit_any c; rw [b1] at t1
      go_enter Try.func64, Try.ntmps64
      go_wp2_with (first
        | (go_at_call 63; refine (t0 _).mono ?_; rintro e w1 ⟨rfl, rfl⟩)
        | (go_at_call 65; refine (t1 _).mono ?_; rintro e w1 ⟨rfl, rfl⟩))
      go_ret
      simp

end Go.Proofs.Ytejiagmfinhjbaa
