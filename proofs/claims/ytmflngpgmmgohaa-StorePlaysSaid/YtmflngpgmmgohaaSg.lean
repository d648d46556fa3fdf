/-
  Walks: reading lengths.
-/
import Derived.Test.YtmflngpgmmgohaaSf
namespace Go.Proofs.Ytmflngpgmmgohaa
open Go.RowKit

def lenGo (s : ByteArray) : Nat → Nat → Nat → Option (Nat × Nat)
  | 0, _, _ => none
  | f + 1, i, z =>
    if h : i < s.size then
      if s[i].toNat < 128 then
        if (z + s[i].toNat % 128 * 2 ^ (7 * i)) % 2 = 0 ∧ (i = 0 ∨ 0 < s[i].toNat) then some ((z + s[i].toNat % 128 * 2 ^ (7 * i)) / 2, i + 1) else none
      else lenGo s f (i + 1) (z + s[i].toNat % 128 * 2 ^ (7 * i))
    else none
def lenV (s : ByteArray) : Option (Nat × Nat) := lenGo s 8 0 0

def lenR (s : ByteArray) (o : Option (Nat × Nat)) (e : Ending) : Prop :=
  match o with
  | some (n, k) => e = .returned (.tuple #[.int .i64 n, .string (s.extract k s.size), .bool true])
  | none => ∃ (n : Int) (r : ByteArray), e = .returned (.tuple #[.int .i64 n, .string r, .bool false])

theorem and127 : ∀ k : Nat, k < 256 → bits BinOp.and IntKind.u8 (k : Int) 127 = ((k % 128 : Nat) : Int) := by decide +kernel

theorem wrap_u64 (n : Int) : IntKind.u64.wrap n = n % 18446744073709551616 := by simp [IntKind.wrap, IntKind.bits, IntKind.signed]
theorem bits_or_u64 (a b : Nat) (ha : a < 18446744073709551616) (hb : b < 18446744073709551616) : bits .or .u64 (a : Int) (b : Int) = ((a ||| b : Nat) : Int) := by
  have hx : a ||| b < 2 ^ 64 := Nat.or_lt_two_pow (by omega) (by omega)
  have h1 : (BitVec.ofInt 64 (a : Int)).toNat = a := by
    rw [BitVec.ofInt_natCast, BitVec.toNat_ofNat]; exact Nat.mod_eq_of_lt (by omega)
  have h2 : (BitVec.ofInt 64 (b : Int)).toNat = b := by
    rw [BitVec.ofInt_natCast, BitVec.toNat_ofNat]; exact Nat.mod_eq_of_lt (by omega)
  show IntKind.u64.wrap ((BitVec.ofInt 64 (a : Int) ||| BitVec.ofInt 64 (b : Int)).toNat : Int) = _
  rw [BitVec.toNat_or, h1, h2, wrap_u64]
  omega
theorem bits_and_u64 (a : Nat) (ha : a < 18446744073709551616) : bits .and .u64 (a : Int) 1 = ((a % 2 : Nat) : Int) := by
  have h1 : (BitVec.ofInt 64 (a : Int)).toNat = a := by
    rw [BitVec.ofInt_natCast, BitVec.toNat_ofNat]; exact Nat.mod_eq_of_lt (by omega)
  show IntKind.u64.wrap ((BitVec.ofInt 64 (a : Int) &&& BitVec.ofInt 64 1).toNat : Int) = _
  rw [BitVec.toNat_and, h1, wrap_u64]
  rw [show (BitVec.ofInt 64 1).toNat = 1 from rfl, Nat.and_one_is_mod]
  omega
theorem or_add {m x k : Nat} (hm : m < 2 ^ (7 * k)) : m ||| x * 2 ^ (7 * k) = m + x * 2 ^ (7 * k) := by
  have := Nat.shiftLeft_add_eq_or_of_lt hm x
  rw [Nat.shiftLeft_eq] at this
  rw [Nat.or_comm, ← this, Nat.add_comm]

structure LI (s : ByteArray) (k m : Nat) : Prop where
  le : k ≤ 8
  lt : m < 2 ^ (7 * k)
  eq : lenGo s (8 - k) k m = lenV s

theorem LI.start (s : ByteArray) : LI s 0 0 := ⟨by omega, by decide, rfl⟩
theorem pow_le56 {k : Nat} (h : k < 8) : 2 ^ (7 * k) ≤ 562949953421312 := by
  have : 2 ^ (7 * k) ≤ 2 ^ 49 := Nat.pow_le_pow_right (by omega) (by omega)
  exact this
theorem LI.at {s : ByteArray} {k m : Nat} (h : LI s k m) (hk : k < 8) (hs : k < s.size) : lenV s =
      if s[k].toNat < 128 then
        if (m + s[k].toNat % 128 * 2 ^ (7 * k)) % 2 = 0 ∧ (k = 0 ∨ 0 < s[k].toNat) then some ((m + s[k].toNat % 128 * 2 ^ (7 * k)) / 2, k + 1) else none
      else lenGo s (8 - (k + 1)) (k + 1) (m + s[k].toNat % 128 * 2 ^ (7 * k)) := by
  rw [← h.eq, show 8 - k = (8 - (k + 1)) + 1 by omega, lenGo, dif_pos hs]
theorem LI.next {s : ByteArray} {k m : Nat} (h : LI s k m) (hk : k < 8) (hs : k < s.size) (hb : ¬ s[k].toNat < 128) : LI s (k + 1) (m + s[k].toNat % 128 * 2 ^ (7 * k)) := by
  refine ⟨by omega, ?_, ?_⟩
  · have h1 := h.lt
    have h2 : s[k].toNat % 128 < 128 := Nat.mod_lt _ (by omega)
    have h3 : 2 ^ (7 * (k + 1)) = 128 * 2 ^ (7 * k) := by rw [show 7 * (k + 1) = 7 * k + 7 by omega, Nat.pow_add]; omega
    have h4 : s[k].toNat % 128 * 2 ^ (7 * k) ≤ 127 * 2 ^ (7 * k) := Nat.mul_le_mul_right _ (by omega)
    omega
  · rw [h.at hk hs, if_neg hb]
theorem LI.out {s : ByteArray} {k m : Nat} (h : LI s k m) (hs : ¬ (k < s.size ∧ k < 8)) : lenV s = none := by
  rw [← h.eq]
  by_cases hk : k < 8
  · rw [show 8 - k = (8 - (k + 1)) + 1 by omega, lenGo, dif_neg (by omega)]
  · have := h.le; rw [show 8 - k = 0 by omega]; rfl

set_option maxRecDepth 100000 in
set_option maxHeartbeats 8000000 in
theorem length_any (s : ByteArray) (hs : s.size ≤ 1048576) (w : World) :
    Calls Try.prog 80 #[.string s] w fun e w' => lenR s (lenV s) e ∧ Below w.heap.size w w' := by
  go_enter Try.func80, Try.ntmps80
  go_wp2
  go_loop [5, 6] (fun z i => ∃ k m : Nat, i = .int .i64 k ∧ z = .int .u64 m ∧ LI s k m) (fun _ i => 8 - (intOf i).toNat)
  case atStart => exact ⟨0, 0, rfl, rfl, LI.start s⟩
  case round =>
    obtain ⟨k, m, rfl, rfl, hi⟩ := hrel
    have hk8 := hi.le
    by_cases h1 : k < s.size
    · by_cases h2 : k < 8
      · by_cases h0 : k = 0
        · subst h0
          obtain rfl : m = 0 := by have := hi.lt; omega
          have hb := s[0].toNat_lt
          have hand := and127 s[0].toNat (by omega)
          have hR := hi.at (by omega) h1
          have hN := fun h => hi.next (by omega) h1 h
          rw [show 0 + s[0].toNat % 128 * 2 ^ (7 * 0) = s[0].toNat % 128 by omega] at hR hN
          have hzb : s[0].toNat % 128 < 128 := Nat.mod_lt _ (by omega)
          generalize s[0].toNat % 128 = z at *
          have hor : bits .or .u64 0 (z : Int) = (z : Int) := by
            have := bits_or_u64 0 z (by omega) (by omega)
            rw [Nat.zero_or] at this
            exact this
          by_cases h3 : s[0].toNat < 128
          · rw [if_pos h3] at hR
            have HR := Lib.hid hR; clear hR hN hi
            by_cases h4 : z % 2 = 0
            · have hd4 : (bits .and .u64 (z : Int) 1 == 0) = true := by rw [bits_and_u64 z (by omega), h4]; rfl
              go_wp2_with (first
                | (with_reducible refine Lex.wp_region_lex (by kernel_rfl) (by decide +kernel) ?_)
                | (with_reducible refine Lex.fin_on (by kernel_rfl) ?_))
              go_ret3
              rw [HR.out, if_pos ⟨h4, Or.inl (by trivial)⟩]
              exact ⟨by simp [lenR], (Below.refl _ _).drew⟩
            · have hd4 : (bits .and .u64 (z : Int) 1 == 0) = false := by rw [bits_and_u64 z (by omega)]; simp; omega
              go_wp2_with (first
                | (with_reducible refine Lex.wp_region_lex (by kernel_rfl) (by decide +kernel) ?_)
                | (with_reducible refine Lex.fin_on (by kernel_rfl) ?_))
              go_ret3
              rw [HR.out, if_neg (fun h => by omega)]
              exact ⟨⟨_, _, rfl⟩, by first | exact Below.refl _ _ | exact (Below.refl _ _).drew⟩
          · go_wp2
            exact ⟨⟨1, z, rfl, rfl, hN h3⟩, by simp [intOf]⟩
        have hb := s[k].toNat_lt
        have hand := and127 s[k].toNat (by omega)
        have hp := pow_le56 h2
        have hm := hi.lt
        have hx4 : s[k].toNat % 128 * 2 ^ (7 * k) ≤ 127 * 2 ^ (7 * k) := Nat.mul_le_mul_right _ (by omega)
        have hor : bits .or .u64 (m : Int) (IntKind.u64.wrap ((s[k].toNat : Int) % 128 * 2 ^ (7 * k))) = ((m + s[k].toNat % 128 * 2 ^ (7 * k) : Nat) : Int) := by
          rw [← or_add hm, ← bits_or_u64 m (s[k].toNat % 128 * 2 ^ (7 * k)) (by omega) (by omega), wrap_u64]
          congr 1
          have e : ((s[k].toNat : Int) % 128 * 2 ^ (7 * k)) = ((s[k].toNat % 128 * 2 ^ (7 * k) : Nat) : Int) := by simp
          rw [e]; omega
        have Hi := Lib.hid hi; clear hi
        have hR := Hi.out.at h2 h1
        have hN := fun h => Hi.out.next h2 h1 h
        have hzb : m + s[k].toNat % 128 * 2 ^ (7 * k) < 18446744073709551616 := by omega
        generalize m + s[k].toNat % 128 * 2 ^ (7 * k) = z at *
        clear hx4 hm hp
        by_cases h3 : s[k].toNat < 128
        · rw [if_pos h3] at hR
          have HR := Lib.hid hR; clear hR hN
          by_cases h4 : z % 2 = 0
          · have hd4 : (bits .and .u64 (z : Int) 1 == 0) = true := by rw [bits_and_u64 z hzb, h4]; rfl
            have hd5 : ((k : Int) == 0) = false := by simp; omega
            by_cases h6 : 0 < s[k].toNat
            · go_wp2_with (first
                | (with_reducible refine Lex.wp_region_lex (by kernel_rfl) (by decide +kernel) ?_)
                | (with_reducible refine Lex.fin_on (by kernel_rfl) ?_))
              go_ret3
              rw [HR.out, if_pos ⟨h4, Or.inr h6⟩]
              exact ⟨by simp [lenR], (Below.refl _ _).drew⟩
            · go_wp2_with (first
                | (with_reducible refine Lex.wp_region_lex (by kernel_rfl) (by decide +kernel) ?_)
                | (with_reducible refine Lex.fin_on (by kernel_rfl) ?_))
              go_ret3
              rw [HR.out, if_neg (fun h => by omega)]
              exact ⟨⟨_, _, rfl⟩, by first | exact Below.refl _ _ | exact (Below.refl _ _).drew⟩
          · have hd4 : (bits .and .u64 (z : Int) 1 == 0) = false := by rw [bits_and_u64 z hzb]; simp; omega
            go_wp2_with (first
              | (with_reducible refine Lex.wp_region_lex (by kernel_rfl) (by decide +kernel) ?_)
              | (with_reducible refine Lex.fin_on (by kernel_rfl) ?_))
            go_ret3
            rw [HR.out, if_neg (fun h => by omega)]
            exact ⟨⟨_, _, rfl⟩, by first | exact Below.refl _ _ | exact (Below.refl _ _).drew⟩
        · go_wp2
          exact ⟨⟨k + 1, z, by go_num, rfl, hN h3⟩, by simp [intOf]; omega⟩
      · go_wp2
        go_ret3
        exact ⟨by rw [hi.out (by omega)]; exact ⟨_, _, rfl⟩, by first | exact Below.refl _ _ | exact (Below.refl _ _).drew⟩
    · go_wp2
      go_ret3
      exact ⟨by rw [hi.out (by omega)]; exact ⟨_, _, rfl⟩, by first | exact Below.refl _ _ | exact (Below.refl _ _).drew⟩
end Go.Proofs.Ytmflngpgmmgohaa
