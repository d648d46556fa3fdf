/-
  Plain: what a frame reads as.
-/
import Derived.Test.YtmflngpgmmgohaaSn
namespace Go.Proofs.Ytmflngpgmmgohaa
open Go.RowKit

theorem leb_ne (z : Nat) : 0 < (leb z).length := by
  by_cases h : z < 128
  · rw [leb_lt h]; simp
  · rw [leb_ge h]; simp

theorem getElem_of_drop {s : ByteArray} {i : Nat} {b : UInt8} {l : List UInt8} (h : s.data.toList.drop i = b :: l) : ∃ hi : i < s.size, s[i] = b ∧ s.data.toList.drop (i + 1) = l := by
  have hlt : i < s.data.toList.length := by
    rcases Nat.lt_or_ge i s.data.toList.length with h' | h'
    · exact h'
    · rw [List.drop_eq_nil_of_le h'] at h; exact absurd h (by simp)
  rw [List.drop_eq_getElem_cons hlt] at h
  simp only [List.cons.injEq] at h
  refine ⟨by simpa using hlt, ?_, h.2⟩
  rw [← h.1]; rfl

theorem lenGo_leb {s : ByteArray} {rest : List UInt8} : ∀ (f i z m : Nat), s.data.toList.drop i = leb m ++ rest → (leb m).length ≤ f → (z + m * 2 ^ (7 * i)) % 2 = 0 → (i = 0 ∨ 0 < m) →
    lenGo s f i z = some ((z + m * 2 ^ (7 * i)) / 2, i + (leb m).length)
  | 0, _, _, m, _, h2, _, _ => by have := leb_ne m; omega
  | f + 1, i, z, m, h1, h2, h3, h4 => by
    by_cases hm : m < 128
    · rw [leb_lt hm] at h1 h2 ⊢
      obtain ⟨hi, hb, _⟩ := getElem_of_drop h1
      have hn : (UInt8.ofNat m).toNat = m := toNat_ofNat (by omega)
      rw [lenGo, dif_pos hi, hb, hn, if_pos hm, Nat.mod_eq_of_lt hm, if_pos ⟨h3, by omega⟩]
      rfl
    · rw [leb_ge hm] at h1 h2 ⊢
      obtain ⟨hi, hb, hd⟩ := getElem_of_drop h1
      have hn : (UInt8.ofNat (m % 128 + 128)).toNat = m % 128 + 128 := toNat_ofNat (by omega)
      have hp : z + m % 128 * 2 ^ (7 * i) + m / 128 * 2 ^ (7 * (i + 1)) = z + m * 2 ^ (7 * i) := by
        rw [show 7 * (i + 1) = 7 * i + 7 by omega, Nat.pow_add, show (2 : Nat) ^ 7 = 128 by decide]
        have := Nat.div_add_mod m 128
        generalize 2 ^ (7 * i) = p at *
        rw [Nat.add_assoc, show m % 128 * p + m / 128 * (p * 128) = (128 * (m / 128) + m % 128) * p by rw [Nat.add_mul, Nat.mul_comm p 128, ← Nat.mul_assoc, Nat.mul_comm (m / 128) 128, Nat.add_comm], this]
      rw [lenGo, dif_pos hi, hb, hn, if_neg (by omega), show (m % 128 + 128) % 128 = m % 128 by omega]
      rw [lenGo_leb f (i + 1) _ (m / 128) hd (by simpa using h2) (by rw [hp]; exact h3) (by omega), hp]
      simp; omega
theorem ext_left (a b : ByteArray) : (a ++ b).extract 0 a.size = a := by
  apply ByteArray.ext
  simp
theorem ext_right (a b : ByteArray) : (a ++ b).extract a.size (a ++ b).size = b := by
  apply ByteArray.ext
  have h0 : a.data.extract a.size (a.size + b.size) = #[] := by
    rw [Array.extract_eq_empty_iff]
    exact Nat.min_le_right _ _
  have h1 : b.data.extract 0 b.size = b.data := Array.extract_size
  simp [h0, h1]
theorem lenV_text (s r : ByteArray) (hs : s.size ≤ 8388608) : lenV (textB s ++ r) = some (s.size, (leb (s.size * 2)).length) := by
  have h5 := leb5 (n := s.size) hs
  have h : (textB s ++ r).data.toList.drop 0 = leb (s.size * 2) ++ (s.data.toList ++ r.data.toList) := by simp [textB]
  have := lenGo_leb 8 0 0 (s.size * 2) h (by omega) (by simp) (.inl rfl)
  simp at this
  exact this
theorem cutV_text (s r : ByteArray) (hs : s.size ≤ 8388608) : cutV (textB s ++ r) = some (s, r) := by
  have hx : textB s ++ r = ⟨(leb (s.size * 2)).toArray⟩ ++ (s ++ r) := by unfold textB; rw [ByteArray.append_assoc]
  have hk : (ByteArray.mk (leb (s.size * 2)).toArray).size = (leb (s.size * 2)).length := size_mk _
  have he : (textB s ++ r).extract (leb (s.size * 2)).length (textB s ++ r).size = s ++ r := by rw [hx, ← hk]; exact ext_right _ _
  rw [cutV_some (lenV_text s r hs) (by rw [he]; simp), he, ext_left, ext_right]
theorem openV_seal (b : ByteArray) : openV (sealB b) = (b, 0) := by
  have h4 := sealB_size b
  have ho : openS (sealB b) = b := by
    unfold openS; rw [h4, Nat.add_sub_cancel]; unfold sealB; exact ext_left _ _
  unfold openV
  rw [if_neg (by omega), ho, if_pos rfl]
theorem append_nil (a : ByteArray) : a ++ ⟨#[]⟩ = a := by apply ByteArray.ext; simp
theorem recV_frame (k d r : ByteArray) (hk : k.size ≤ 65536) (hd : d.size ≤ 65536) : recV (frameB k d ++ r) = some ((k, d), r) := by
  have h1 := textB_le (s := k) (by omega)
  have h2 := textB_le (s := d) (by omega)
  have h3 : (textB k ++ textB d).size ≤ 131082 := by rw [ByteArray.size_append]; omega
  have h4 := sealB_size (textB k ++ textB d)
  have c1 := cutV_text (sealB (textB k ++ textB d)) r (by omega)
  have c2 := cutV_text k (textB d) (by omega)
  have c3 := cutV_text d ⟨#[]⟩ (by omega)
  rw [append_nil] at c3
  unfold frameB recV
  simp only [c1, openV_seal, c2, c3, if_true]
theorem recV_empty : recV ⟨#[]⟩ = none := rfl
theorem readV_frame (k d : ByteArray) (hk : k.size ≤ 65536) (hd : d.size ≤ 65536) : readV (frameB k d) = ([(k, d)], ⟨#[]⟩) := by
  have h := recV_frame k d ⟨#[]⟩ hk hd
  rw [append_nil] at h
  exact readV_of (Chain.snoc Chain.nil h) recV_empty
end Go.Proofs.Ytmflngpgmmgohaa
