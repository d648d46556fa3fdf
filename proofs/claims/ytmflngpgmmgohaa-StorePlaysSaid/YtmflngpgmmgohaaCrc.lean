/-
  Plain laws: the check sum by a table of bytes and by single bits; integers in base 128.
-/
namespace Go.Proofs.Ytmflngpgmmgohaa

/-! ### The check sum -/
def crcP : Nat := 0x82f63b78
def st (c : Nat) : Nat := if c % 2 = 1 then (c / 2) ^^^ crcP else c / 2
def stN : Nat → Nat → Nat
  | 0, c => c
  | n + 1, c => stN n (st c)

theorem div2_xor (a b : Nat) : (a ^^^ b) / 2 = a / 2 ^^^ b / 2 := by
  have := Nat.shiftRight_xor_distrib (a := a) (b := b) (i := 1)
  simpa [Nat.shiftRight_eq_div_pow] using this
theorem mod2_xor (a b : Nat) : (a ^^^ b) % 2 = (a % 2 + b % 2) % 2 := by
  have h := Nat.testBit_xor a b 0
  simp only [Nat.testBit_zero] at h
  have h1 := Nat.mod_two_eq_zero_or_one a
  have h2 := Nat.mod_two_eq_zero_or_one b
  have h3 := Nat.mod_two_eq_zero_or_one (a ^^^ b)
  rcases h1 with h1 | h1 <;> rcases h2 with h2 | h2 <;> rcases h3 with h3 | h3 <;> simp [h1, h2, h3] at h ⊢
theorem st_xor (a b : Nat) : st (a ^^^ b) = st a ^^^ st b := by
  unfold st
  rw [mod2_xor, div2_xor]
  rcases Nat.mod_two_eq_zero_or_one a with h1 | h1 <;> rcases Nat.mod_two_eq_zero_or_one b with h2 | h2 <;> simp [h1, h2]
  · rw [Nat.xor_assoc]
  · rw [Nat.xor_assoc, Nat.xor_assoc, Nat.xor_comm crcP (b / 2)]
  · rw [Nat.xor_assoc, ← Nat.xor_assoc crcP, Nat.xor_comm crcP (b / 2), Nat.xor_assoc, Nat.xor_self, Nat.xor_zero]
theorem stN_xor (n : Nat) : ∀ a b, stN n (a ^^^ b) = stN n a ^^^ stN n b := by
  induction n with
  | zero => intro a b; rfl
  | succ n ih => intro a b; simp only [stN]; rw [st_xor, ih]
theorem st_two (m : Nat) : st (2 * m) = m := by unfold st; rw [if_neg (by omega)]; omega
theorem stN_pow (n : Nat) : ∀ m, stN n (2 ^ n * m) = m := by
  induction n with
  | zero => intro m; simp [stN]
  | succ n ih =>
    intro m
    simp only [stN]
    rw [show 2 ^ (n + 1) * m = 2 * (2 ^ n * m) by rw [Nat.pow_succ]; rw [Nat.mul_assoc, Nat.mul_left_comm], st_two, ih]
theorem split_xor (c : Nat) : c = (256 * (c / 256)) ^^^ (c % 256) := by
  apply Nat.eq_of_testBit_eq
  intro i
  rw [Nat.testBit_xor]
  have h1 : (256 * (c / 256)).testBit i = (decide (8 ≤ i) && c.testBit i) := by
    rw [show (256 : Nat) = 2 ^ 8 from rfl, Nat.testBit_two_pow_mul, ← Nat.shiftRight_eq_div_pow, Nat.testBit_shiftRight]
    by_cases h : 8 ≤ i
    · simp [h]
    · simp [h]
  have h2 : (c % 256).testBit i = (decide (i < 8) && c.testBit i) := by
    rw [show (256 : Nat) = 2 ^ 8 from rfl, Nat.testBit_mod_two_pow]
  rw [h1, h2]
  by_cases h : 8 ≤ i
  · have : ¬ i < 8 := by omega
    simp [h, this]
  · have : i < 8 := by omega
    simp [h, this]
/-- One byte by the table is one byte bit by bit. -/
theorem crc_byte (c : Nat) : stN 8 c = (c / 256) ^^^ stN 8 (c % 256) := by
  conv => lhs; rw [split_xor c]
  rw [stN_xor, show (256 : Nat) = 2 ^ 8 from rfl, stN_pow]

def crcFold : List UInt8 → Nat → Nat
  | [], c => c
  | b :: l, c => crcFold l (stN 8 (c ^^^ b.toNat))
theorem crcFold_append (l m : List UInt8) (c : Nat) : crcFold (l ++ m) c = crcFold m (crcFold l c) := by
  induction l generalizing c with
  | nil => rfl
  | cons b l ih => simp only [List.cons_append, crcFold]; exact ih _
theorem st_lt {c : Nat} (h : c < 4294967296) : st c < 4294967296 := by
  unfold st
  split
  · exact Nat.xor_lt_two_pow (n := 32) (by omega) (by unfold crcP; omega)
  · omega
theorem stN_lt (n : Nat) : ∀ {c : Nat}, c < 4294967296 → stN n c < 4294967296 := by
  induction n with
  | zero => intro c h; exact h
  | succ n ih => intro c h; exact ih (st_lt h)
theorem crcFold_lt (l : List UInt8) : ∀ {c : Nat}, c < 4294967296 → crcFold l c < 4294967296 := by
  induction l with
  | nil => intro c h; exact h
  | cons b l ih =>
    intro c h
    refine ih (stN_lt 8 (Nat.xor_lt_two_pow (n := 32) (by omega) ?_))
    have := b.toNat_lt
    omega
/-- The sum of a list of bytes. -/
def crc (l : List UInt8) : Nat := 4294967295 - crcFold l 4294967295

/-! ### Integers in base 128 -/
def leb (z : Nat) : List UInt8 := if h : z < 128 then [UInt8.ofNat z] else UInt8.ofNat (z % 128 + 128) :: leb (z / 128)
termination_by z
decreasing_by omega
theorem leb_lt {z : Nat} (h : z < 128) : leb z = [UInt8.ofNat z] := by rw [leb, dif_pos h]
theorem leb_ge {z : Nat} (h : ¬ z < 128) : leb z = UInt8.ofNat (z % 128 + 128) :: leb (z / 128) := by rw [leb, dif_neg h]
/-- What is written of z before the last bytes: k bytes, what is left. -/
theorem leb_length (z : Nat) : ∀ n, z < 128 ^ n → 0 < n → (leb z).length ≤ n := by
  induction z using Nat.strongRecOn with
  | _ z ih =>
    intro n hn h0
    by_cases h : z < 128
    · rw [leb_lt h]; simp; omega
    · rw [leb_ge h]
      obtain ⟨m, rfl⟩ : ∃ m, n = m + 1 := ⟨n - 1, by omega⟩
      have h1 : z / 128 < 128 ^ m := by rw [Nat.pow_succ] at hn; exact Nat.div_lt_of_lt_mul (by rw [Nat.mul_comm]; exact hn)
      have hm : 0 < m := by
        rcases Nat.eq_zero_or_pos m with h' | h'
        · subst h'; simp at h1; omega
        · exact h'
      have := ih (z / 128) (by omega) m h1 hm
      simp; omega
end Go.Proofs.Ytmflngpgmmgohaa
