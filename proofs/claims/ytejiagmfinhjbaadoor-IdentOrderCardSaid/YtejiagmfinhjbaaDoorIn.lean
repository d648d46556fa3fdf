/-
  The order of keys.
-/
import Derived.Test.YtejiagmfinhjbaaDoorIs
namespace Go.Proofs.YtejiagmfinhjbaaDoor
open Go.RowKit Go.Ident

/-! ### Plain laws -/
theorem cb_lss (a : List UInt8) : ∀ b, Lib.compareBytes a b = if Op.bytesLess a b then -1 else if Op.bytesLess b a then 1 else 0 := by
  induction a with
  | nil => intro b; cases b <;> simp [Lib.compareBytes, Op.bytesLess]
  | cons x r ih =>
    intro b
    cases b with
    | nil => simp [Lib.compareBytes, Op.bytesLess]
    | cons y q =>
      simp only [Lib.compareBytes, Op.bytesLess]
      by_cases h1 : x < y
      · simp [h1]
      · by_cases h2 : y < x
        · have hne : x ≠ y := by rintro rfl; exact h1 h2
          simp [h1, h2, hne]
        · have he : x = y := UInt8.le_antisymm (UInt8.not_lt.1 h2) (UInt8.not_lt.1 h1)
          subst he
          simp [h1, ih]
theorem bl_gt (a : List UInt8) : ∀ b, (!(Op.bytesLess a b || a == b)) = Op.bytesLess b a := by
  induction a with
  | nil => intro b; cases b <;> simp [Op.bytesLess]
  | cons x r ih =>
    intro b
    cases b with
    | nil => simp [Op.bytesLess]
    | cons y q =>
      simp only [Op.bytesLess]
      by_cases h1 : x < y
      · have h2 : ¬ y < x := fun h => by rw [UInt8.lt_iff_toNat_lt] at h h1; omega
        have hne : y ≠ x := by rintro rfl; exact h2 h1
        simp [h1, h2, hne]
      · by_cases h2 : y < x
        · have hne : x ≠ y := by rintro rfl; exact h1 h2
          simp [h1, h2, hne]
        · have he : x = y := UInt8.le_antisymm (UInt8.not_lt.1 h2) (UInt8.not_lt.1 h1)
          subst he
          simpa [h1] using ih q
theorem run_gtr_string (w : World) (a b : ByteArray) : (binOp .gtr 9 (.string a) (.string b)).run Tryd.prog w = .ok (.bool (Op.bytesLess b.toList a.toList)) w := by
  rw [← bl_gt]
  simp [binOp, Op.stringOp]
theorem cb_range (a : List UInt8) : ∀ b, Lib.compareBytes a b = -1 ∨ Lib.compareBytes a b = 0 ∨ Lib.compareBytes a b = 1 := by
  intro b
  rw [cb_lss]
  split
  · simp
  · split <;> simp
theorem cb_neg (a : List UInt8) : ∀ b, Lib.compareBytes b a = - Lib.compareBytes a b := by
  induction a with
  | nil => intro b; cases b <;> simp [Lib.compareBytes]
  | cons x r ih =>
    intro b
    cases b with
    | nil => simp [Lib.compareBytes]
    | cons y q =>
      simp only [Lib.compareBytes]
      by_cases h1 : x < y
      · have h2 : ¬ y < x := fun h => by rw [UInt8.lt_iff_toNat_lt] at h h1; omega
        simp [h1, h2]
      · by_cases h2 : y < x
        · simp [h1, h2]
        · simp [h1, h2, ih]
theorem cb_zero (a : List UInt8) : ∀ b, Lib.compareBytes a b = 0 → a = b := by
  induction a with
  | nil => intro b; cases b <;> simp [Lib.compareBytes]
  | cons x r ih =>
    intro b
    cases b with
    | nil => simp [Lib.compareBytes]
    | cons y q =>
      simp only [Lib.compareBytes]
      by_cases h1 : x < y
      · simp [h1]
      · by_cases h2 : y < x
        · simp [h1, h2]
        · have he : x = y := UInt8.le_antisymm (UInt8.not_lt.1 h2) (UInt8.not_lt.1 h1)
          subst he
          simp only [h1, if_false]
          intro h
          rw [ih _ h]
theorem cb_refl (a : List UInt8) : Lib.compareBytes a a = 0 := by
  have := cb_neg a a
  omega
theorem cb_trans (a : List UInt8) : ∀ b c, Lib.compareBytes a b ≤ 0 → Lib.compareBytes b c ≤ 0 → Lib.compareBytes a c ≤ 0 ∧ (Lib.compareBytes a c = 0 → Lib.compareBytes a b = 0) := by
  induction a with
  | nil => intro b c; cases b <;> cases c <;> simp [Lib.compareBytes]
  | cons x r ih =>
    intro b c
    cases b with
    | nil => simp [Lib.compareBytes]
    | cons y q =>
      cases c with
      | nil => simp [Lib.compareBytes]
      | cons z p =>
        simp only [Lib.compareBytes, UInt8.lt_iff_toNat_lt]
        have := ih q p
        by_cases h1 : x.toNat < y.toNat
        · by_cases h2 : y.toNat < z.toNat
          · have h3 : x.toNat < z.toNat := by omega
            simp [h1, h2, h3]
          · by_cases h4 : z.toNat < y.toNat
            · simp [h1, h2, h4]
            · have h3 : x.toNat < z.toNat := by omega
              simp [h1, h2, h4, h3]
        · by_cases h5 : y.toNat < x.toNat
          · simp [h1, h5]
          · by_cases h2 : y.toNat < z.toNat
            · have h3 : x.toNat < z.toNat := by omega
              simp [h1, h5, h2, h3]
            · by_cases h4 : z.toNat < y.toNat
              · simp [h1, h2, h4]
              · have h3 : ¬ x.toNat < z.toNat := by omega
                have h6 : ¬ z.toNat < x.toNat := by omega
                simpa [h1, h5, h2, h4, h3, h6] using this
/-- CompareKeys. -/
def cmpK (k : Int) (t : List UInt8) (k2 : Int) (t2 : List UInt8) : Int := if k < k2 then -1 else if k > k2 then 1 else Lib.compareBytes t t2
theorem ck_range (k : Int) (t : List UInt8) (k2 : Int) (t2 : List UInt8) : cmpK k t k2 t2 = -1 ∨ cmpK k t k2 t2 = 0 ∨ cmpK k t k2 t2 = 1 := by
  unfold cmpK
  split
  · simp
  · split
    · simp
    · exact cb_range _ _
theorem ck_neg (k : Int) (t : List UInt8) (k2 : Int) (t2 : List UInt8) : cmpK k2 t2 k t = - cmpK k t k2 t2 := by
  unfold cmpK
  by_cases h1 : k < k2
  · rw [if_neg (by omega), if_pos (by omega), if_pos h1]; rfl
  · by_cases h2 : k > k2
    · rw [if_pos (by omega), if_neg h1, if_pos h2]
    · rw [if_neg (by omega), if_neg (by omega), if_neg h1, if_neg h2]; exact cb_neg _ _
theorem ck_zero {k : Int} {t : List UInt8} {k2 : Int} {t2 : List UInt8} (h : cmpK k t k2 t2 = 0) : k = k2 ∧ t = t2 := by
  unfold cmpK at h
  split at h
  · omega
  · split at h
    · omega
    · exact ⟨by omega, cb_zero _ _ h⟩
theorem ck_refl (k : Int) (t : List UInt8) : cmpK k t k t = 0 := by
  unfold cmpK
  rw [if_neg (by omega), if_neg (by omega)]; exact cb_refl _
theorem ck_trans {k : Int} {t : List UInt8} {k2 : Int} {t2 : List UInt8} {k3 : Int} {t3 : List UInt8} (h1 : cmpK k t k2 t2 ≤ 0) (h2 : cmpK k2 t2 k3 t3 ≤ 0) : cmpK k t k3 t3 ≤ 0 ∧ (cmpK k t k3 t3 = 0 → cmpK k t k2 t2 = 0) := by
  unfold cmpK at *
  by_cases a1 : k < k2
  · by_cases a2 : k2 < k3
    · rw [if_pos (show k < k3 by omega)]; simp
    · by_cases a3 : k2 > k3
      · rw [if_neg a2, if_pos a3] at h2; omega
      · rw [if_pos (show k < k3 by omega)]; simp
  · by_cases a4 : k > k2
    · rw [if_neg a1, if_pos a4] at h1; omega
    · rw [if_neg a1, if_neg a4] at h1 ⊢
      by_cases a2 : k2 < k3
      · rw [if_pos (show k < k3 by omega)]; simp
      · by_cases a3 : k2 > k3
        · rw [if_neg a2, if_pos a3] at h2; omega
        · rw [if_neg a2, if_neg a3] at h2
          rw [if_neg (show ¬ k < k3 by omega), if_neg (show ¬ k > k3 by omega)]
          exact cb_trans _ _ _ h1 h2

/-! ### Walks -/
set_option maxRecDepth 100000 in
set_option maxHeartbeats 8000000 in
theorem compareKeys_any (k : Int) (t : ByteArray) (k2 : Int) (t2 : ByteArray) (w : World) : Calls Tryd.prog 28 #[.agg #[.int .i64 k, .string t], .agg #[.int .i64 k2, .string t2]] w fun e w' => e = .returned (.int .i64 (cmpK k t.data.toList k2 t2.data.toList)) ∧ Below w.heap.size w w' := by
  have H2 := Lib.hid (below_alloc ((Below.refl w.heap.size w).alloc (Nat.le_refl _) (.cells #[.int .i64 k, .string t] 23)) (.cells #[.int .i64 k2, .string t2] 23))
  have hC := Tryd.cmp_Compare_int k k2
  have hS := Tryd.strings_Compare t t2
  have hcm : cmpK k t.data.toList k2 t2.data.toList = if Lib.compareInt k k2 = 0 then Lib.compareBytes t.data.toList t2.data.toList else Lib.compareInt k k2 := by
    unfold cmpK Lib.compareInt
    split
    · simp
    · split <;> simp
  rw [hcm]
  clear hcm
  by_cases h0 : Lib.compareInt k k2 = 0
  · rw [if_pos h0]
    rw [h0] at hC
    clear h0
    generalize Lib.compareBytes t.data.toList t2.data.toList = c at *
    go_enter Tryd.func28, Tryd.ntmps28
    go_wp2_with (first
      | (go_at_call 48; refine (hC _).mono ?_; rintro e w1 ⟨rfl, rfl⟩)
      | (go_at_call 49; refine (hS _).mono ?_; rintro e w1 ⟨rfl, rfl⟩))
    go_ret
    exact ⟨rfl, H2.out⟩
  · rw [if_neg h0]
    have d0 : (Lib.compareInt k k2 != 0) = true := by simpa using h0
    clear h0
    generalize Lib.compareInt k k2 = c at *
    go_enter Tryd.func28, Tryd.ntmps28
    go_wp2_with (first
      | (go_at_call 48; refine (hC _).mono ?_; rintro e w1 ⟨rfl, rfl⟩))
    go_ret
    exact ⟨rfl, H2.out⟩

set_option maxRecDepth 100000 in
theorem order_any (x y : Int) (w : World) : Calls Tryd.prog 50 #[.int .i64 x, .int .i64 y] w fun e w' => e = .returned (.int .i64 (Lib.compareInt x y)) ∧ w' = w := by
  unfold Lib.compareInt
  by_cases h1 : x < y
  · rw [if_pos h1]
    go_enter Tryd.func50, Tryd.ntmps50
    go_wp2
    go_ret
    exact ⟨rfl, rfl⟩
  · rw [if_neg h1]
    by_cases h2 : x > y
    · rw [if_pos h2]
      go_enter Tryd.func50, Tryd.ntmps50
      go_wp2
      go_ret
      exact ⟨rfl, rfl⟩
    · rw [if_neg h2]
      go_enter Tryd.func50, Tryd.ntmps50
      go_wp2
      go_ret
      exact ⟨rfl, rfl⟩
set_option maxRecDepth 100000 in
theorem text_any (a b : ByteArray) (w : World) : Calls Tryd.prog 51 #[.string a, .string b] w fun e w' => e = .returned (.int .i64 (Lib.compareBytes a.data.toList b.data.toList)) ∧ w' = w := by
  have hgt := run_gtr_string (a := a) (b := b)
  rw [cb_lss, list_eq, list_eq]
  cases h1 : Op.bytesLess a.toList b.toList with
  | true =>
    go_enter Tryd.func51, Tryd.ntmps51
    go_wp2
    go_ret
    exact ⟨rfl, rfl⟩
  | false =>
    cases h2 : Op.bytesLess b.toList a.toList with
    | true =>
      rw [h2] at hgt
      go_enter Tryd.func51, Tryd.ntmps51
      go_wp2
      go_ret
      exact ⟨rfl, rfl⟩
    | false =>
      rw [h2] at hgt
      go_enter Tryd.func51, Tryd.ntmps51
      go_wp2
      go_ret
      exact ⟨rfl, rfl⟩
set_option maxRecDepth 100000 in
set_option maxHeartbeats 8000000 in
theorem refCompareKeys_any (k : Int) (t : ByteArray) (k2 : Int) (t2 : ByteArray) (w : World) : Calls Tryd.prog 29 #[.agg #[.int .i64 k, .string t], .agg #[.int .i64 k2, .string t2]] w fun e w' => e = .returned (.int .i64 (cmpK k t.data.toList k2 t2.data.toList)) ∧ Below w.heap.size w w' := by
  have H2 := Lib.hid (below_alloc ((Below.refl w.heap.size w).alloc (Nat.le_refl _) (.cells #[.int .i64 k, .string t] 23)) (.cells #[.int .i64 k2, .string t2] 23))
  have hC := order_any k k2
  have hS := text_any t t2
  by_cases h0 : k = k2
  · have hcm : cmpK k t.data.toList k2 t2.data.toList = Lib.compareBytes t.data.toList t2.data.toList := by
      unfold cmpK; rw [if_neg (by omega), if_neg (by omega)]
    rw [hcm]
    have d0 : (k != k2) = false := by simpa using h0
    clear hcm h0
    generalize Lib.compareBytes t.data.toList t2.data.toList = c at *
    go_enter Tryd.func29, Tryd.ntmps29
    go_wp2_with (first
      | (go_at_call 51; refine (hS _).mono ?_; rintro e w1 ⟨rfl, rfl⟩))
    go_ret
    exact ⟨rfl, H2.out⟩
  · have hcm : cmpK k t.data.toList k2 t2.data.toList = Lib.compareInt k k2 := by
      unfold cmpK Lib.compareInt
      split
      · rfl
      · rw [if_pos (by omega), if_pos (by omega)]
    rw [hcm]
    have d0 : (k != k2) = true := by simpa using h0
    clear hcm h0
    generalize Lib.compareInt k k2 = c at *
    go_enter Tryd.func29, Tryd.ntmps29
    go_wp2_with (first
      | (go_at_call 50; refine (hC _).mono ?_; rintro e w1 ⟨rfl, rfl⟩))
    go_ret
    exact ⟨rfl, H2.out⟩
end Go.Proofs.YtejiagmfinhjbaaDoor
