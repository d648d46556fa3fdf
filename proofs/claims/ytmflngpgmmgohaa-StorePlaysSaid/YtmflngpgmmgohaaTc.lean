/-
  Plain: the document's reader reads what the program reads.
-/
import Derived.Test.YtmflngpgmmgohaaTa
import Derived.Test.YtmflngpgmmgohaaSn
namespace Go.Proofs.Ytmflngpgmmgohaa
open Go.RowKit

theorem rest_size {S : ByteArray} {p : Nat} (_hp : p ≤ S.size) : (S.extract p S.size).size = S.size - p := by simp
theorem rest_get {S : ByteArray} {p i : Nat} (h : i < (S.extract p S.size).size) : (S.extract p S.size)[i] = S[p + i]'(by simp at h; omega) := by
  simp [ByteArray.getElem_extract]

theorem ref_len {S : ByteArray} {p0 : Nat} (hp : p0 ≤ S.size) : ∀ (f i z : Nat), i + f = 8 →
    match refGo S (f + 2) i z (p0 + i) with
    | none => lenGo (S.extract p0 S.size) f i z = none
    | some (z', p') => p0 < p' ∧ p' ≤ S.size ∧ (p' ≤ p0 + 8 → lenGo (S.extract p0 S.size) f i z = if z' % 2 = 0 then some (z' / 2, p' - p0) else none) ∧
        (p0 + 8 < p' → lenGo (S.extract p0 S.size) f i z = none ∧ 72057594037927936 ≤ z')
  | 0, i, z, h => by
    obtain rfl : i = 8 := by omega
    have e8 : (2 : Nat) ^ (7 * 8) = 72057594037927936 := by decide
    have e9 : (2 : Nat) ^ (7 * (8 + 1)) = 9223372036854775808 := by decide
    unfold refGo
    by_cases h1 : p0 + 8 < S.size
    · rw [dif_pos h1]
      by_cases h2 : (8 = 9 ∧ 1 < S[p0 + 8].toNat) ∨ (S[p0 + 8].toNat = 0 ∧ 0 < 8)
      · rw [if_pos h2]; rfl
      · rw [if_neg h2]
        by_cases h3 : S[p0 + 8].toNat < 128
        · rw [if_pos h3, e8]
          refine ⟨by omega, by omega, fun h => by omega, fun _ => ⟨rfl, ?_⟩⟩
          have : 1 * 72057594037927936 ≤ S[p0 + 8].toNat % 128 * 72057594037927936 := Nat.mul_le_mul_right _ (by omega)
          omega
        · rw [if_neg h3]
          unfold refGo
          by_cases h4 : p0 + 8 + 1 < S.size
          · rw [dif_pos h4]
            by_cases h5 : (8 + 1 = 9 ∧ 1 < S[p0 + 8 + 1].toNat) ∨ (S[p0 + 8 + 1].toNat = 0 ∧ 0 < 8 + 1)
            · rw [if_pos h5]; rfl
            · rw [if_neg h5, if_pos (by omega), e9]
              refine ⟨by omega, by omega, fun h => by omega, fun _ => ⟨rfl, ?_⟩⟩
              have : 1 * 9223372036854775808 ≤ S[p0 + 8 + 1].toNat % 128 * 9223372036854775808 := Nat.mul_le_mul_right _ (by omega)
              omega
          · rw [dif_neg h4]; rfl
    · rw [dif_neg h1]; rfl
  | f + 1, i, z, h => by
    have hs := rest_size hp
    unfold refGo lenGo
    by_cases h1 : p0 + i < S.size
    · have h1' : i < (S.extract p0 S.size).size := by omega
      rw [dif_pos h1, dif_pos h1', rest_get h1']
      by_cases h2 : (i = 9 ∧ 1 < S[p0 + i].toNat) ∨ (S[p0 + i].toNat = 0 ∧ 0 < i)
      · rw [if_pos h2]
        dsimp only
        rw [if_pos (by omega), if_neg (by omega)]
      · rw [if_neg h2]
        by_cases h3 : S[p0 + i].toNat < 128
        · rw [if_pos h3]
          dsimp only
          rw [if_pos h3]
          refine ⟨by omega, by omega, fun _ => ?_, fun h => by omega⟩
          have e : p0 + i + 1 - p0 = i + 1 := by omega
          rw [e]
          by_cases h4 : (z + S[p0 + i].toNat % 128 * 2 ^ (7 * i)) % 2 = 0
          · rw [if_pos ⟨h4, by omega⟩, if_pos h4]
          · rw [if_neg (fun h => h4 h.1), if_neg h4]
        · rw [if_neg h3]
          have ih := ref_len hp f (i + 1) (z + S[p0 + i].toNat % 128 * 2 ^ (7 * i)) (by omega)
          rw [show p0 + (i + 1) = p0 + i + 1 by omega] at ih
          rw [if_neg h3]
          exact ih
    · have h1' : ¬ i < (S.extract p0 S.size).size := by omega
      rw [dif_neg h1, dif_neg h1']

/-- A length, as the document reads it. -/
def lenRef (S : ByteArray) (p : Nat) : Option (Nat × Nat) :=
  match refV S p with
  | some (z, p') => if z % 2 = 0 then some (z / 2, p') else none
  | none => none
/-- A text: from where, and its length. -/
def textRef (S : ByteArray) (p : Nat) : Option (Nat × Nat) :=
  match lenRef S p with
  | some (n, p') => if S.size - p' < n then none else some (p', n)
  | none => none

theorem ext_ext {S : ByteArray} {p a b : Nat} (hp : p ≤ S.size) (hb : b ≤ S.size - p) : (S.extract p S.size).extract a b = S.extract (p + a) (p + b) := by
  apply ByteArray.ext
  simp only [ByteArray.data_extract, Array.extract_extract]
  congr 1
  have : S.size = S.data.size := rfl
  omega

theorem textRef_le {S : ByteArray} {p q n : Nat} (hp : p ≤ S.size) (hS : S.size ≤ 1048576) (h : textRef S p = some (q, n)) : q + n ≤ S.size ∧ p < q ∧ cutV (S.extract p S.size) = some (S.extract q (q + n), S.extract (q + n) S.size) := by
  have hr := ref_len hp 8 0 0 (by omega)
  unfold textRef lenRef refV at h
  rw [show p + 0 = p from rfl] at hr
  cases ho : refGo S (8 + 2) 0 0 p with
  | none => rw [show (10 : Nat) = 8 + 2 from rfl, ho] at h; simp at h
  | some o =>
    obtain ⟨z, p'⟩ := o
    rw [show (10 : Nat) = 8 + 2 from rfl, ho] at h
    rw [ho] at hr
    dsimp only at h hr
    obtain ⟨h1, h2, h3, h4⟩ := hr
    by_cases hz : z % 2 = 0
    · rw [if_pos hz] at h
      dsimp only at h
      by_cases hn : S.size - p' < z / 2
      · rw [if_pos hn] at h; exact absurd h (by simp)
      · rw [if_neg hn] at h
        simp only [Option.some.injEq, Prod.mk.injEq] at h
        obtain ⟨rfl, rfl⟩ := h
        have h8 : p' ≤ p + 8 := by
          rcases Nat.lt_or_ge (p + 8) p' with h8 | h8
          · have := (h4 h8).2; omega
          · exact h8
        have hl := h3 h8
        rw [if_pos hz] at hl
        refine ⟨by omega, h1, ?_⟩
        have hs := rest_size hp
        have e1 : (S.extract p S.size).extract (p' - p) (S.extract p S.size).size = S.extract p' S.size := by
          rw [hs, ext_ext hp (Nat.le_refl _), show p + (p' - p) = p' by omega, show p + (S.size - p) = S.size by omega]
        have hs' := rest_size (S := S) (p := p') (by omega)
        have e2 := cutV_some (s := S.extract p S.size) (n := z / 2) (k := p' - p) hl (by rw [e1, hs']; omega)
        rw [e2, e1, hs', ext_ext (by omega) (by omega), ext_ext (by omega) (Nat.le_refl _), show p' + 0 = p' from rfl, show p' + (S.size - p') = S.size by omega]
    · rw [if_neg hz] at h; exact absurd h (by simp)
theorem textRef_none {S : ByteArray} {p : Nat} (hp : p ≤ S.size) (_hS : S.size ≤ 1048576) (h : textRef S p = none) : cutV (S.extract p S.size) = none := by
  have hr := ref_len hp 8 0 0 (by omega)
  unfold textRef lenRef refV at h
  rw [show p + 0 = p from rfl] at hr
  have hs := rest_size hp
  cases ho : refGo S (8 + 2) 0 0 p with
  | none =>
    rw [ho] at hr
    exact cutV_none hr
  | some o =>
    obtain ⟨z, p'⟩ := o
    rw [show (10 : Nat) = 8 + 2 from rfl, ho] at h
    rw [ho] at hr
    dsimp only at h hr
    obtain ⟨h1, h2, h3, h4⟩ := hr
    rcases Nat.lt_or_ge (p + 8) p' with h8 | h8
    · exact cutV_none (h4 h8).1
    · have hl := h3 h8
      by_cases hz : z % 2 = 0
      · rw [if_pos hz] at h hl
        dsimp only at h
        have hn : S.size - p' < z / 2 := by
          rcases Nat.lt_or_ge (S.size - p') (z / 2) with hn | hn
          · exact hn
          · rw [if_neg (by omega)] at h; exact absurd h (by simp)
        have e1 : (S.extract p S.size).extract (p' - p) (S.extract p S.size).size = S.extract p' S.size := by
          rw [hs, ext_ext hp (Nat.le_refl _), show p + (p' - p) = p' by omega, show p + (S.size - p) = S.size by omega]
        have hs' := rest_size (S := S) (p := p') (by omega)
        exact cutV_long (s := S.extract p S.size) (n := z / 2) (k := p' - p) hl (by rw [e1, hs']; omega)
      · rw [if_neg hz] at hl
        exact cutV_none hl
end Go.Proofs.Ytmflngpgmmgohaa
