/-
  Walks: the document's reader of integers, texts.
-/
import Derived.Test.YtmflngpgmmgohaaTa
namespace Go.Proofs.Ytmflngpgmmgohaa
open Go.RowKit

theorem RV.start {S : ByteArray} {b p : Nat} {w : World} (hb : w.heap[b]? = some (inObj S p 0)) : RV S b p w 0 0 p w := ⟨by omega, by decide, rfl, Upd.refl hb⟩
theorem RV.at {S : ByteArray} {b p0 i z p : Nat} {w wr : World} (h : RV S b p0 w i z p wr) (hs : p < S.size) : refV S p0 =
      if (i = 9 ∧ 1 < S[p].toNat) ∨ (S[p].toNat = 0 ∧ 0 < i) then none
      else if S[p].toNat < 128 then some (z + S[p].toNat % 128 * 2 ^ (7 * i), p + 1)
      else refGo S (10 - (i + 1)) (i + 1) (z + S[p].toNat % 128 * 2 ^ (7 * i)) (p + 1) := by
  have := h.le
  rw [← h.eq, show 10 - i = (10 - (i + 1)) + 1 by omega, refGo, dif_pos hs]
theorem RV.end {S : ByteArray} {b p0 i z p : Nat} {w wr : World} (h : RV S b p0 w i z p wr) (hs : S.size ≤ p) : refV S p0 = none := by
  have := h.le
  rw [← h.eq, show 10 - i = (10 - (i + 1)) + 1 by omega, refGo, dif_neg (by omega)]
theorem RV.lt64 {S : ByteArray} {b p0 i z p : Nat} {w wr : World} (h : RV S b p0 w i z p wr) (hs : p < S.size) (hg : ¬ ((i = 9 ∧ 1 < S[p].toNat) ∨ (S[p].toNat = 0 ∧ 0 < i))) : z + S[p].toNat % 128 * 2 ^ (7 * i) < 18446744073709551616 := by
  have h1 := h.le
  have h2 := h.lt
  by_cases h9 : i = 9
  · subst h9
    have : S[p].toNat % 128 ≤ 1 := by omega
    have h3 : (2 : Nat) ^ (7 * 9) = 9223372036854775808 := by decide
    rw [h3] at h2 ⊢
    have : S[p].toNat % 128 * 9223372036854775808 ≤ 1 * 9223372036854775808 := Nat.mul_le_mul_right _ this
    omega
  · have h3 : 2 ^ (7 * i) ≤ 2 ^ 56 := Nat.pow_le_pow_right (by omega) (by omega)
    have h4 : (2 : Nat) ^ 56 = 72057594037927936 := by decide
    have h5 : S[p].toNat % 128 * 2 ^ (7 * i) ≤ 127 * 2 ^ (7 * i) := Nat.mul_le_mul_right _ (by omega)
    rw [h4] at h3
    omega
theorem RV.next {S : ByteArray} {b p0 i z p : Nat} {w wr w' : World} (h : RV S b p0 w i z p wr) (hs : p < S.size) (hg : ¬ ((i = 9 ∧ 1 < S[p].toNat) ∨ (S[p].toNat = 0 ∧ 0 < i))) (hb : ¬ S[p].toNat < 128) (hu : Upd b (inObj S (p + 1) 0) wr w') :
    RV S b p0 w (i + 1) (z + S[p].toNat % 128 * 2 ^ (7 * i)) (p + 1) w' := by
  have h1 := h.le
  have hlt := h.lt
  refine ⟨by omega, ?_, ?_, h.upd.trans hu⟩
  · have h2 : S[p].toNat % 128 < 128 := Nat.mod_lt _ (by omega)
    have h3 : 2 ^ (7 * (i + 1)) = 128 * 2 ^ (7 * i) := by rw [show 7 * (i + 1) = 7 * i + 7 by omega, Nat.pow_add]; omega
    have h4 : S[p].toNat % 128 * 2 ^ (7 * i) ≤ 127 * 2 ^ (7 * i) := Nat.mul_le_mul_right _ (by omega)
    omega
  · rw [h.at hs, if_neg hg, if_neg hb]

theorem not_u64 (r : Nat) (hr : r < 18446744073709551616) : 18446744073709551615 ^^^ r = 18446744073709551615 - r := by
  have h := congrArg BitVec.toNat (BitVec.allOnes_xor (x := BitVec.ofNat 64 r))
  rw [BitVec.toNat_xor, BitVec.toNat_not, BitVec.toNat_allOnes, BitVec.toNat_ofNat, Nat.mod_eq_of_lt (by omega : r < 2 ^ 64)] at h
  simpa using h
theorem bits_xor_u64 (a b : Nat) (ha : a < 18446744073709551616) (hb : b < 18446744073709551616) : bits .xor .u64 (a : Int) (b : Int) = ((a ^^^ b : Nat) : Int) := by
  have hx : a ^^^ b < 2 ^ 64 := Nat.xor_lt_two_pow (by omega) (by omega)
  have h1 : (BitVec.ofInt 64 (a : Int)).toNat = a := by
    rw [BitVec.ofInt_natCast, BitVec.toNat_ofNat]; exact Nat.mod_eq_of_lt (by omega)
  have h2 : (BitVec.ofInt 64 (b : Int)).toNat = b := by
    rw [BitVec.ofInt_natCast, BitVec.toNat_ofNat]; exact Nat.mod_eq_of_lt (by omega)
  show IntKind.u64.wrap ((BitVec.ofInt 64 (a : Int) ^^^ BitVec.ofInt 64 (b : Int)).toNat : Int) = _
  rw [BitVec.toNat_xor, h1, h2, wrap_u64]
  omega
theorem bits_not_u64 (r : Nat) (hr : r < 18446744073709551616) : bits .xor .u64 IntKind.u64.max (r : Int) = ((18446744073709551615 - r : Nat) : Int) := by
  rw [← not_u64 r hr, ← bits_xor_u64 _ r (by omega) hr]; rfl
theorem unzig_odd (z : Nat) (hz : z < 18446744073709551616) (h : ((z : Int) % 2 == 1) = true) : wrap64 (bits .xor .u64 IntKind.u64.max ((z : Int) / 2)) = unzig z := by
  have h1 : z % 2 = 1 := by rw [beq_iff_eq] at h; omega
  have e : ((z : Int) / 2) = ((z / 2 : Nat) : Int) := by simp
  rw [e, bits_not_u64 _ (by omega)]
  unfold unzig
  rw [if_pos h1]
  unfold wrap64
  omega
theorem unzig_even (z : Nat) (h : ((z : Int) % 2 == 1) = false) : (z : Int) / 2 = unzig z := by
  have h1 : ¬ z % 2 = 1 := by rw [beq_eq_false_iff_ne] at h; omega
  unfold unzig
  rw [if_neg h1]
  simp
theorem pow_le63 {k : Nat} (h : k ≤ 9) : 2 ^ (7 * k) ≤ 9223372036854775808 := by
  have : 2 ^ (7 * k) ≤ 2 ^ 63 := Nat.pow_le_pow_right (by omega) (by omega)
  exact this

set_option maxRecDepth 100000 in
set_option maxHeartbeats 8000000 in
theorem int_ok (b : Nat) (S : ByteArray) (p0 : Nat) (w : World) (hb : w.heap[b]? = some (inObj S p0 0)) (hS : S.size ≤ 1048576) :
    Calls Try.prog 82 #[.pointer (some ⟨b, 0, none⟩)] w fun r w' => intR S b (refV S p0) r w w' := by
  go_enter Try.func82, Try.ntmps82
  go_wp2
  go_loopw [3, 4] (fun z i wr => ∃ k m p : Nat, i = .int .u64 k ∧ z = .int .u64 m ∧ RV S b p0 w k m p wr) (fun _ i _ => 10 - (intOf i).toNat)
  case atStart => exact ⟨0, 0, p0, rfl, rfl, RV.start hb⟩
  case round =>
    obtain ⟨k, m, p, rfl, rfl, hi⟩ := hrel
    have hk9 := hi.le
    have hm := hi.lt
    by_cases h1 : p < S.size
    · have hO := one_ok b S p wr hi.upd.blk h1 hS
      have hF := fun w1 h => fail_any b S (p + 1) 0 5 w1 h
      rw [if_pos rfl] at hF
      have hb8 := S[p].toNat_lt
      by_cases hg : (k = 9 ∧ 1 < S[p].toNat) ∨ (S[p].toNat = 0 ∧ 0 < k)
      · have hR := hi.at h1
        rw [if_pos hg] at hR
        have HR := Lib.hid hR; clear hR
        have Hi := Lib.hid hi; clear hi
        have hq : (((k : Int) == 9) = true ∧ 1 < S[p].toNat) ∨ (((k : Int) == 9) = true ∧ ((S[p].toNat : Int) == 0) = true ∧ ¬ 1 < S[p].toNat ∧ 0 < k) ∨ (((k : Int) == 9) = false ∧ ((S[p].toNat : Int) == 0) = true ∧ 0 < k) := by
          simp only [beq_iff_eq, beq_eq_false_iff_ne]
          omega
        clear hg
        rcases hq with ⟨q1, q2⟩ | ⟨q1, q2, q3, q4⟩ | ⟨q1, q2, q3⟩ <;>
        (go_wp2_with (first
          | (with_reducible refine Lex.wp_region_lex (by kernel_rfl) (by decide +kernel) ?_)
          | (with_reducible refine Lex.fin_on (by kernel_rfl) ?_)
          | (go_at_call 88; refine hO.mono ?_; rintro r w1 ⟨rfl, hU1⟩; obtain ⟨d0, d1, d2, fz⟩ := cells3 hU1.blk)
          | (go_at_call 74; refine (hF _ hU1.blk).mono ?_; rintro r w2 ⟨rfl, hU2⟩))
         go_ret
         rw [HR.out]
         exact ⟨rfl, p + 1, 5, by decide, Hi.out.upd.trans (hU1.trans hU2)⟩)
      · have hR := hi.at h1
        rw [if_neg hg] at hR
        have h64 := hi.lt64 h1 hg
        have hN := fun hx w' hu => hi.next (w' := w') h1 hg hx hu
        have hpw := pow_le63 hk9
        have hor : bits .or .u64 (m : Int) (IntKind.u64.wrap ((S[p].toNat : Int) % 128 * 2 ^ (7 * k))) = ((m + S[p].toNat % 128 * 2 ^ (7 * k) : Nat) : Int) := by
          rw [← or_add hm, ← bits_or_u64 m (S[p].toNat % 128 * 2 ^ (7 * k)) (by omega) (by omega), wrap_u64]
          congr 1
          have e : ((S[p].toNat : Int) % 128 * 2 ^ (7 * k)) = ((S[p].toNat % 128 * 2 ^ (7 * k) : Nat) : Int) := by simp
          rw [e]; omega
        generalize m + S[p].toNat % 128 * 2 ^ (7 * k) = z at *
        have Hi := Lib.hid hi; clear hi
        by_cases hx : S[p].toNat < 128
        · rw [if_pos hx] at hR
          have HR := Lib.hid hR; clear hR hN
          have hq : (((k : Int) == 9) = true ∧ ¬ 1 < S[p].toNat ∧ ((S[p].toNat : Int) == 0) = false) ∨ (((k : Int) == 9) = false ∧ ((S[p].toNat : Int) == 0) = true ∧ k = 0) ∨ (((k : Int) == 9) = false ∧ ((S[p].toNat : Int) == 0) = false) := by
            simp only [beq_iff_eq, beq_eq_false_iff_ne]
            omega
          have hpar : ((z : Int) % 2 == 1) = true ∨ ((z : Int) % 2 == 1) = false := by
            simp only [beq_iff_eq, beq_eq_false_iff_ne]
            omega
          have hor0 : k = 0 → bits .or .u64 (m : Int) ((S[p].toNat : Int) % 128) = (z : Int) := fun h0 => by
            rw [← hor, h0, wrap_u64]
            congr 1
            simp
            omega
          clear hg hm hpw
          rcases hq with ⟨q1, q2, q3⟩ | ⟨q1, q2, q3⟩ | ⟨q1, q2⟩ <;> rcases hpar with hp | hp <;> (first | replace hor0 := hor0 q3 | clear hor0) <;>
          (go_wp2_with (first
            | (with_reducible refine Lex.wp_region_lex (by kernel_rfl) (by decide +kernel) ?_)
            | (with_reducible refine Lex.fin_on (by kernel_rfl) ?_)
            | (go_at_call 88; refine hO.mono ?_; rintro r w1 ⟨rfl, hU1⟩; obtain ⟨d0, d1, d2, fz⟩ := cells3 hU1.blk))
           go_ret
           rw [HR.out]
           exact ⟨by first | exact congrArg (fun x => Ending.returned (.int .i64 x)) (unzig_odd z h64 hp) | exact congrArg (fun x => Ending.returned (.int .i64 x)) (unzig_even z hp), Hi.out.upd.trans hU1⟩)
        · have hq : ((k : Int) == 9) = false ∧ ((S[p].toNat : Int) == 0) = false := by
            simp only [beq_eq_false_iff_ne]
            omega
          obtain ⟨q1, q2⟩ := hq
          go_wp2_with (first
            | (with_reducible refine Lex.wp_region_lex (by kernel_rfl) (by decide +kernel) ?_)
            | (with_reducible refine Lex.fin_on (by kernel_rfl) ?_)
            | (go_at_call 88; refine hO.mono ?_; rintro r w1 ⟨rfl, hU1⟩; obtain ⟨d0, d1, d2, fz⟩ := cells3 hU1.blk))
          exact ⟨⟨k + 1, z, p + 1, by go_num, rfl, hN hx _ hU1⟩, by simp [intOf]; omega⟩
    · have hO := one_bad b S p 0 wr hi.upd.blk (.inr (by omega))
      rw [if_pos rfl] at hO
      have hR := hi.end (by omega)
      have HR := Lib.hid hR; clear hR
      have Hi := Lib.hid hi; clear hi
      go_wp2_with (first
        | (with_reducible refine Lex.wp_region_lex (by kernel_rfl) (by decide +kernel) ?_)
        | (with_reducible refine Lex.fin_on (by kernel_rfl) ?_)
        | (go_at_call 88; refine hO.mono ?_; rintro r w1 ⟨rfl, hU1⟩; obtain ⟨d0, d1, d2, fz⟩ := cells3 hU1.blk))
      go_ret
      rw [HR.out]
      exact ⟨rfl, p, 26, by decide, Hi.out.upd.trans hU1⟩
end Go.Proofs.Ytmflngpgmmgohaa
