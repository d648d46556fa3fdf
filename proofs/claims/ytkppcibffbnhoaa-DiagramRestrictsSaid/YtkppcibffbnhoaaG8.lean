/-
  Walks: the reference's holds.
-/
import Derived.Test.YtkppcibffbnhoaaG7
namespace Go.Proofs.Ytkppcibffbnhoaa
open Go.RowKit
set_option maxRecDepth 100000

def posB (a : Nat) (xs : List Int) : Bool := xs.all fun x => a.testBit x.toNat
def negB (a : Nat) (xs : List Int) : Bool := xs.all fun x => !(a.testBit x.toNat)
def holdsP (a : Nat) (p : IP) : Bool := posB a p.1 && negB a p.2
def litsI (xs : List Int) : Prop := ∀ k (h : k < xs.length), 0 ≤ xs[k] ∧ xs[k] < 12
theorem bits_and_i64 (a b : Nat) (ha : a < 4611686018427387904) (hb : b < 4611686018427387904) : bits .and .i64 (a : Int) (b : Int) = ((a &&& b : Nat) : Int) := by
  have hx : a &&& b < 2 ^ 62 := Nat.and_lt_two_pow _ (by omega)
  have h1 : (BitVec.ofInt 64 (a : Int)).toNat = a := by
    rw [BitVec.ofInt_natCast, BitVec.toNat_ofNat]; exact Nat.mod_eq_of_lt (by omega)
  have h2 : (BitVec.ofInt 64 (b : Int)).toNat = b := by
    rw [BitVec.ofInt_natCast, BitVec.toNat_ofNat]; exact Nat.mod_eq_of_lt (by omega)
  show IntKind.i64.wrap ((BitVec.ofInt 64 (a : Int) &&& BitVec.ofInt 64 (b : Int)).toNat : Int) = _
  rw [BitVec.toNat_and, h1, h2]
  simp [IntKind.wrap, IntKind.bits, IntKind.signed]
  omega
theorem bit_i64 (a l : Nat) (ha : a < 4611686018427387904) : bits .and .i64 ((a : Int) / 2 ^ l) 1 = if a.testBit l then 1 else 0 := by
  have h1 : ((a : Int) / 2 ^ l) = ((a / 2 ^ l : Nat) : Int) := by simp
  have h2 := bits_and_i64 (a / 2 ^ l) 1 (Nat.lt_of_le_of_lt (Nat.div_le_self _ _) ha) (by omega)
  rw [h1]
  have h3 : ((1 : Nat) : Int) = 1 := rfl
  rw [h3] at h2
  rw [h2, Nat.and_one_is_mod, Nat.testBit_eq_decide_div_mod_eq]
  rcases Nat.mod_two_eq_zero_or_one (a / 2 ^ l) with h | h <;> simp [h]
theorem all_upto {xs : List Int} {f : Int → Bool} (h : ∀ i (hi : i < xs.length), f xs[i] = true) : xs.all f = true := by
  rw [List.all_eq_true]
  intro x hx
  obtain ⟨i, hi, rfl⟩ := List.mem_iff_getElem.1 hx
  exact h i hi
theorem all_not {xs : List Int} {f : Int → Bool} {i : Nat} (hi : i < xs.length) (h : f xs[i] = false) : xs.all f = false := by
  cases hb : xs.all f with
  | false => rfl
  | true =>
    rw [List.all_eq_true] at hb
    have := hb _ (List.getElem_mem hi)
    rw [h] at this; cases this

set_option maxHeartbeats 8000000 in
theorem holds_any (v1 v2 : Value) (pos neg : List Int) (a : Nat) (ha : a < 4611686018427387904) (w : World) (h1 : IS w v1 pos) (h2 : IS w v2 neg) (l1 : litsI pos) (l2 : litsI neg) (b1 : pos.length ≤ 1000000) (b2 : neg.length ≤ 1000000) :
    Calls Try.prog 48 #[.agg #[v1, v2], .int .i64 a] w (ER (holdsP a (pos, neg)) w) := by
  obtain ⟨p1, c1, rfl, hc1, hr1⟩ := h1
  obtain ⟨p2, c2, rfl, hc2, hr2⟩ := h2
  have hal := (Below.refl w.heap.size w).alloc (Nat.le_refl _) (.cells #[.slice p1 pos.length c1, .slice p2 neg.length c2] 46)
  have hn := heap_alloc_new w (.cells #[.slice p1 pos.length c1, .slice p2 neg.length c2] 46)
  have R1 := Lib.hid (hr1.below hal); have R2 := Lib.hid (hr2.below hal)
  have L1 := Lib.hid l1; have L2 := Lib.hid l2
  clear hr1 hr2 l1 l2
  go_enter Try.func48, Try.ntmps48
  go_upto_region 1 with fail
  have Hal := Lib.hid hal; clear hal
  generalize w.alloc (.cells #[.slice p1 pos.length c1, .slice p2 neg.length c2] 46) = w1 at *
  obtain ⟨d0, d1, -⟩ := cells2 hn
  clear hn
  go_wp2
  go_loop [5] (fun i => ∃ k : Nat, i = .int .i64 k ∧ k ≤ pos.length ∧ (∀ i (hi : i < pos.length), i < k → a.testBit (pos[i]).toNat = true)) (fun i => pos.length - (intOf i).toNat)
  case atStart => exact ⟨0, rfl, by omega, fun i hi h0 => by omega⟩
  case round =>
    obtain ⟨k, rfl, hk, hall⟩ := hrel
    have Hall := Lib.hid hall; clear hall
    by_cases hlt : k < pos.length
    · obtain ⟨ab, off, rfl, hab, hz⟩ := R1.out.2 (by omega)
      have z0 := hz k (.int .i64 pos[k]) (by simp [ic, hlt])
      obtain ⟨s1, s2⟩ := L1.out k hlt
      have hnx : a.testBit (pos[k]).toNat = true → ∀ i (hi : i < pos.length), i < k + 1 → a.testBit (pos[i]).toNat = true := fun h i hi hik => by
        rcases Nat.lt_succ_iff_lt_or_eq.1 hik with h1 | rfl
        · exact Hall.out i hi h1
        · exact h
      have hno : a.testBit (pos[k]).toNat = false → holdsP a (pos, neg) = false := fun h => by
        have : posB a pos = false := all_not (f := fun x => a.testBit x.toNat) hlt h
        simp only [holdsP, this, Bool.false_and]
      generalize pos[k] = x at *
      obtain ⟨x, rfl⟩ : ∃ n : Nat, x = (n : Int) := ⟨x.toNat, by omega⟩
      simp only [Int.toNat_natCast] at hnx hno
      have hbit := bit_i64 a x ha
      have Hnx := Lib.hid hnx; have Hno := Lib.hid hno; clear hnx hno hz
      cases hb : a.testBit x with
      | true =>
        rw [hb, if_pos rfl] at hbit
        have Hn := Lib.hid (Hnx.out hb); clear hb
        go_wp2
        exact ⟨⟨k + 1, by go_num, by omega, Hn.out⟩, by simp [intOf]; omega⟩
      | false =>
        rw [hb, if_neg (by simp)] at hbit
        have Hn := Lib.hid (Hno.out hb); clear hb
        go_wp2
        go_ret
        rw [Hn.out]
        exact ⟨rfl, Hal.out⟩
    · obtain rfl : k = pos.length := by omega
      have hp : posB a pos = true := all_upto fun i hi => Hall.out i hi hi
      have Hp := Lib.hid hp; clear hp Hall
      go_wp2
      go_loop [6] (fun i => ∃ k : Nat, i = .int .i64 k ∧ k ≤ neg.length ∧ (∀ i (hi : i < neg.length), i < k → a.testBit (neg[i]).toNat = false)) (fun i => neg.length - (intOf i).toNat)
      case atStart => exact ⟨0, rfl, by omega, fun i hi h0 => by omega⟩
      case round =>
        obtain ⟨k, rfl, hk, hall⟩ := hrel
        have Hall := Lib.hid hall; clear hall
        by_cases hlt2 : k < neg.length
        · obtain ⟨ab, off, rfl, hab, hz⟩ := R2.out.2 (by omega)
          have z0 := hz k (.int .i64 neg[k]) (by simp [ic, hlt2])
          obtain ⟨s1, s2⟩ := L2.out k hlt2
          have hnx : a.testBit (neg[k]).toNat = false → ∀ i (hi : i < neg.length), i < k + 1 → a.testBit (neg[i]).toNat = false := fun h i hi hik => by
            rcases Nat.lt_succ_iff_lt_or_eq.1 hik with h1 | rfl
            · exact Hall.out i hi h1
            · exact h
          have hno : a.testBit (neg[k]).toNat = true → holdsP a (pos, neg) = false := fun h => by
            have : negB a neg = false := all_not (f := fun x => !(a.testBit x.toNat)) hlt2 (by simp [h])
            simp only [holdsP, this, Bool.and_false]
          generalize neg[k] = x at *
          obtain ⟨x, rfl⟩ : ∃ n : Nat, x = (n : Int) := ⟨x.toNat, by omega⟩
          simp only [Int.toNat_natCast] at hnx hno
          have hbit := bit_i64 a x ha
          have Hnx := Lib.hid hnx; have Hno := Lib.hid hno; clear hnx hno hz
          cases hb : a.testBit x with
          | false =>
            rw [hb, if_neg (by simp)] at hbit
            have Hn := Lib.hid (Hnx.out hb); clear hb
            go_wp2
            exact ⟨⟨k + 1, by go_num, by omega, Hn.out⟩, by simp [intOf]; omega⟩
          | true =>
            rw [hb, if_pos rfl] at hbit
            have Hn := Lib.hid (Hno.out hb); clear hb
            go_wp2
            go_ret
            rw [Hn.out]
            exact ⟨rfl, Hal.out⟩
        · obtain rfl : k = neg.length := by omega
          have hq : negB a neg = true := all_upto fun i hi => by simp [Hall.out i hi hi]
          have Hr := Lib.hid (show holdsP a (pos, neg) = true by simp only [holdsP, Hp.out, hq, Bool.and_self])
          clear hq Hall
          go_wp2
          go_ret
          rw [Hr.out]
          exact ⟨rfl, Hal.out⟩
end Go.Proofs.Ytkppcibffbnhoaa
