/-
  Walks: classes of bytes, names.
-/
import Derived.Test.YtejiagmfinhjbaaDoorChecked
import Derived.Test.YtejiagmfinhjbaaDoorGuard
import Derived.Test.YtejiagmfinhjbaaDoorFrl
namespace Go.Proofs.YtejiagmfinhjbaaDoor
open Go.RowKit Go.Ident

set_option maxRecDepth 100000 in
theorem lower_any (c : UInt8) (w : World) : Calls Tryd.prog 31 #[.int .u8 c.toNat] w fun e w' => e = .returned (.bool (isLo c)) ∧ w' = w := by
  unfold isLo
  simp only [UInt8.le_iff_toNat_le]
  by_cases h1 : 97 ≤ c.toNat
  · by_cases h2 : c.toNat ≤ 122
    · have d1 : decide ((c.toNat : Int) ≥ 97) = true := by simp; omega
      have d2 : decide ((c.toNat : Int) ≤ 122) = true := by simp; omega
      go_enter Tryd.func31, Tryd.ntmps31
      go_wp2
      go_ret
      simp [h1, h2]
    · have d1 : decide ((c.toNat : Int) ≥ 97) = true := by simp; omega
      have d2 : decide ((c.toNat : Int) ≤ 122) = false := by simp; omega
      go_enter Tryd.func31, Tryd.ntmps31
      go_wp2
      go_ret
      simp [h1, h2]
  · have d1 : decide ((c.toNat : Int) ≥ 97) = false := by simp; omega
    go_enter Tryd.func31, Tryd.ntmps31
    go_wp2
    go_ret
    simp [h1]

set_option maxRecDepth 100000 in
theorem upper_any (c : UInt8) (w : World) : Calls Tryd.prog 36 #[.int .u8 c.toNat] w fun e w' => e = .returned (.bool (isUp c)) ∧ w' = w := by
  unfold isUp
  simp only [UInt8.le_iff_toNat_le]
  by_cases h1 : 65 ≤ c.toNat
  · by_cases h2 : c.toNat ≤ 90
    · have d1 : decide ((c.toNat : Int) ≥ 65) = true := by simp; omega
      have d2 : decide ((c.toNat : Int) ≤ 90) = true := by simp; omega
      go_enter Tryd.func36, Tryd.ntmps36
      go_wp2
      go_ret
      simp [h1, h2]
    · have d1 : decide ((c.toNat : Int) ≥ 65) = true := by simp; omega
      have d2 : decide ((c.toNat : Int) ≤ 90) = false := by simp; omega
      go_enter Tryd.func36, Tryd.ntmps36
      go_wp2
      go_ret
      simp [h1, h2]
  · have d1 : decide ((c.toNat : Int) ≥ 65) = false := by simp; omega
    go_enter Tryd.func36, Tryd.ntmps36
    go_wp2
    go_ret
    simp [h1]

set_option maxRecDepth 100000 in
theorem digit_any (c : UInt8) (w : World) : Calls Tryd.prog 33 #[.int .u8 c.toNat] w fun e w' => e = .returned (.bool (isDi c)) ∧ w' = w := by
  unfold isDi
  simp only [UInt8.le_iff_toNat_le]
  by_cases h1 : 48 ≤ c.toNat
  · by_cases h2 : c.toNat ≤ 57
    · have d1 : decide ((c.toNat : Int) ≥ 48) = true := by simp; omega
      have d2 : decide ((c.toNat : Int) ≤ 57) = true := by simp; omega
      go_enter Tryd.func33, Tryd.ntmps33
      go_wp2
      go_ret
      simp [h1, h2]
    · have d1 : decide ((c.toNat : Int) ≥ 48) = true := by simp; omega
      have d2 : decide ((c.toNat : Int) ≤ 57) = false := by simp; omega
      go_enter Tryd.func33, Tryd.ntmps33
      go_wp2
      go_ret
      simp [h1, h2]
  · have d1 : decide ((c.toNat : Int) ≥ 48) = false := by simp; omega
    go_enter Tryd.func33, Tryd.ntmps33
    go_wp2
    go_ret
    simp [h1]

set_option maxRecDepth 100000 in
theorem rlower_any (c : UInt8) (w : World) : Calls Tryd.prog 34 #[.int .u8 c.toNat] w fun e w' => e = .returned (.bool (isLo c)) ∧ w' = w := by
  unfold isLo
  simp only [UInt8.le_iff_toNat_le]
  by_cases h1 : 97 ≤ c.toNat
  · by_cases h2 : c.toNat ≤ 122
    · have d1 : decide ((c.toNat : Int) ≥ 97) = true := by simp; omega
      have d2 : decide ((c.toNat : Int) ≤ 122) = true := by simp; omega
      go_enter Tryd.func34, Tryd.ntmps34
      go_wp2
      go_ret
      simp [h1, h2]
    · have d1 : decide ((c.toNat : Int) ≥ 97) = true := by simp; omega
      have d2 : decide ((c.toNat : Int) ≤ 122) = false := by simp; omega
      go_enter Tryd.func34, Tryd.ntmps34
      go_wp2
      go_ret
      simp [h1, h2]
  · have d1 : decide ((c.toNat : Int) ≥ 97) = false := by simp; omega
    go_enter Tryd.func34, Tryd.ntmps34
    go_wp2
    go_ret
    simp [h1]

set_option maxRecDepth 100000 in
theorem rupper_any (c : UInt8) (w : World) : Calls Tryd.prog 38 #[.int .u8 c.toNat] w fun e w' => e = .returned (.bool (isUp c)) ∧ w' = w := by
  unfold isUp
  simp only [UInt8.le_iff_toNat_le]
  by_cases h1 : 65 ≤ c.toNat
  · by_cases h2 : c.toNat ≤ 90
    · have d1 : decide ((c.toNat : Int) ≥ 65) = true := by simp; omega
      have d2 : decide ((c.toNat : Int) ≤ 90) = true := by simp; omega
      go_enter Tryd.func38, Tryd.ntmps38
      go_wp2
      go_ret
      simp [h1, h2]
    · have d1 : decide ((c.toNat : Int) ≥ 65) = true := by simp; omega
      have d2 : decide ((c.toNat : Int) ≤ 90) = false := by simp; omega
      go_enter Tryd.func38, Tryd.ntmps38
      go_wp2
      go_ret
      simp [h1, h2]
  · have d1 : decide ((c.toNat : Int) ≥ 65) = false := by simp; omega
    go_enter Tryd.func38, Tryd.ntmps38
    go_wp2
    go_ret
    simp [h1]

set_option maxRecDepth 100000 in
theorem rdigit_any (c : UInt8) (w : World) : Calls Tryd.prog 35 #[.int .u8 c.toNat] w fun e w' => e = .returned (.bool (isDi c)) ∧ w' = w := by
  unfold isDi
  simp only [UInt8.le_iff_toNat_le]
  by_cases h1 : 48 ≤ c.toNat
  · by_cases h2 : c.toNat ≤ 57
    · have d1 : decide ((c.toNat : Int) ≥ 48) = true := by simp; omega
      have d2 : decide ((c.toNat : Int) ≤ 57) = true := by simp; omega
      go_enter Tryd.func35, Tryd.ntmps35
      go_wp2
      go_ret
      simp [h1, h2]
    · have d1 : decide ((c.toNat : Int) ≥ 48) = true := by simp; omega
      have d2 : decide ((c.toNat : Int) ≤ 57) = false := by simp; omega
      go_enter Tryd.func35, Tryd.ntmps35
      go_wp2
      go_ret
      simp [h1, h2]
  · have d1 : decide ((c.toNat : Int) ≥ 48) = false := by simp; omega
    go_enter Tryd.func35, Tryd.ntmps35
    go_wp2
    go_ret
    simp [h1]

theorem eq95 (c : UInt8) : (c = 95) = (c.toNat = 95) := by
  apply propext
  constructor
  · rintro rfl; rfl
  · intro h; exact UInt8.toNat_inj.1 h
theorem deq95 (c : UInt8) : ((c.toNat : Int) == 95) = decide (c = 95) := by
  simp only [eq95]
  by_cases h : c.toNat = 95
  · simp [h]
  · simp [h]; omega

set_option maxRecDepth 100000 in
theorem aOther_any (c : UInt8) (w : World) : Calls Tryd.prog 32 #[.int .u8 c.toNat] w fun e w' => e = .returned (.bool (aOther c)) ∧ w' = w := by
  unfold aOther
  have d0 := deq95 c

  cases b0 : isLo c with
  | true =>
    have t0 := lower_any c; rw [b0] at t0
    go_enter Tryd.func32, Tryd.ntmps32
    go_wp2_with (first
      | (go_at_call 31; refine (t0 _).mono ?_; rintro e w1 ⟨rfl, rfl⟩))
    go_ret
    simp
  | false =>
    have t0 := lower_any c; rw [b0] at t0
    cases b1 : isDi c with
    | true =>
      have t1 := digit_any c; rw [b1] at t1
      go_enter Tryd.func32, Tryd.ntmps32
      go_wp2_with (first
        | (go_at_call 31; refine (t0 _).mono ?_; rintro e w1 ⟨rfl, rfl⟩)
        | (go_at_call 33; refine (t1 _).mono ?_; rintro e w1 ⟨rfl, rfl⟩))
      go_ret
      simp
    | false =>
      have t1 := digit_any c; rw [b1] at t1
      go_enter Tryd.func32, Tryd.ntmps32
      go_wp2_with (first
        | (go_at_call 31; refine (t0 _).mono ?_; rintro e w1 ⟨rfl, rfl⟩)
        | (go_at_call 33; refine (t1 _).mono ?_; rintro e w1 ⟨rfl, rfl⟩))
      go_ret
      simp

set_option maxRecDepth 100000 in
theorem vOther_any (c : UInt8) (w : World) : Calls Tryd.prog 37 #[.int .u8 c.toNat] w fun e w' => e = .returned (.bool (vOther c)) ∧ w' = w := by
  unfold vOther
  have d0 := deq95 c

  cases b0 : isLo c with
  | true =>
    have t0 := lower_any c; rw [b0] at t0
    go_enter Tryd.func37, Tryd.ntmps37
    go_wp2_with (first
      | (go_at_call 31; refine (t0 _).mono ?_; rintro e w1 ⟨rfl, rfl⟩))
    go_ret
    simp
  | false =>
    have t0 := lower_any c; rw [b0] at t0
    cases b1 : isUp c with
    | true =>
      have t1 := upper_any c; rw [b1] at t1
      go_enter Tryd.func37, Tryd.ntmps37
      go_wp2_with (first
        | (go_at_call 31; refine (t0 _).mono ?_; rintro e w1 ⟨rfl, rfl⟩)
        | (go_at_call 36; refine (t1 _).mono ?_; rintro e w1 ⟨rfl, rfl⟩))
      go_ret
      simp
    | false =>
      have t1 := upper_any c; rw [b1] at t1
      cases b2 : isDi c with
      | true =>
        have t2 := digit_any c; rw [b2] at t2
        go_enter Tryd.func37, Tryd.ntmps37
        go_wp2_with (first
          | (go_at_call 31; refine (t0 _).mono ?_; rintro e w1 ⟨rfl, rfl⟩)
          | (go_at_call 36; refine (t1 _).mono ?_; rintro e w1 ⟨rfl, rfl⟩)
          | (go_at_call 33; refine (t2 _).mono ?_; rintro e w1 ⟨rfl, rfl⟩))
        go_ret
        simp
      | false =>
        have t2 := digit_any c; rw [b2] at t2
        go_enter Tryd.func37, Tryd.ntmps37
        go_wp2_with (first
          | (go_at_call 31; refine (t0 _).mono ?_; rintro e w1 ⟨rfl, rfl⟩)
          | (go_at_call 36; refine (t1 _).mono ?_; rintro e w1 ⟨rfl, rfl⟩)
          | (go_at_call 33; refine (t2 _).mono ?_; rintro e w1 ⟨rfl, rfl⟩))
        go_ret
        simp

end Go.Proofs.YtejiagmfinhjbaaDoor
