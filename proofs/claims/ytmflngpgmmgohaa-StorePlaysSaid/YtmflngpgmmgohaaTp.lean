/-
  Plain: what a log reads as, whole or cut.
-/
import Derived.Test.YtmflngpgmmgohaaSq
namespace Go.Proofs.Ytmflngpgmmgohaa
open Go.RowKit

def framesB : List Rec → ByteArray
  | [] => ⟨#[]⟩
  | r :: l => frameB r.1 r.2 ++ framesB l
theorem nil_append (a : ByteArray) : ⟨#[]⟩ ++ a = a := by apply ByteArray.ext; simp
theorem framesB_append (l m : List Rec) : framesB (l ++ m) = framesB l ++ framesB m := by
  induction l with
  | nil => simp only [framesB, List.nil_append, nil_append]
  | cons r l ih => simp only [framesB, List.cons_append, ih, ByteArray.append_assoc]
theorem framesB_snoc (l : List Rec) (r : Rec) : framesB (l ++ [r]) = framesB l ++ frameB r.1 r.2 := by
  rw [framesB_append]; simp only [framesB, append_nil]
def Small (l : List Rec) : Prop := ∀ r ∈ l, r.1.size ≤ 65536 ∧ r.2.size ≤ 65536
theorem chain_frames {s P : ByteArray} : ∀ (l pre : List Rec), Small l → Chain s pre (framesB l ++ P) → Chain s (pre ++ l) P
  | [], pre, _, h => by simpa [framesB, nil_append] using h
  | r :: l, pre, hs, h => by
    have hr := hs r (by simp)
    simp only [framesB, ByteArray.append_assoc] at h
    have := chain_frames l (pre ++ [r]) (fun x hx => hs x (by simp [hx])) (.snoc h (recV_frame r.1 r.2 _ hr.1 hr.2))
    simpa using this
theorem readV_frames {l : List Rec} {P : ByteArray} (hs : Small l) (hP : recV P = none) : readV (framesB l ++ P) = (l, P) :=
  readV_of (by have := chain_frames (s := framesB l ++ P) l [] hs .nil; simpa using this) hP

theorem lenGo_cut {s : ByteArray} : ∀ (f i z m : Nat) (l : List UInt8), s.data.toList.drop i = l → (∃ t, t ≠ [] ∧ l ++ t = leb m) → lenGo s f i z = none
  | 0, _, _, _, _, _, _ => rfl
  | f + 1, i, z, m, [], h1, _ => by
    have : s.size ≤ i := by
      have := List.drop_eq_nil_iff.1 h1
      simpa using this
    rw [lenGo, dif_neg (by omega)]
  | f + 1, i, z, m, b :: l, h1, ⟨t, ht, he⟩ => by
    obtain ⟨hi, hb, hd⟩ := getElem_of_drop h1
    by_cases hm : m < 128
    · rw [leb_lt hm] at he
      simp only [List.cons_append, List.cons.injEq, List.append_eq_nil_iff] at he
      exact absurd he.2.2 ht
    · rw [leb_ge hm] at he
      simp only [List.cons_append, List.cons.injEq] at he
      obtain ⟨rfl, he⟩ := he
      have hn : (UInt8.ofNat (m % 128 + 128)).toNat = m % 128 + 128 := toNat_ofNat (by omega)
      rw [lenGo, dif_pos hi, hb, hn, if_neg (by omega)]
      exact lenGo_cut f (i + 1) _ (m / 128) l hd ⟨t, ht, he⟩
/-- A text that is cut has no length, or too few bytes. -/
theorem cutV_cut {X : ByteArray} {m : Nat} (hX : X.size ≤ 8388608) (hm : m < (textB X).size) : cutV ((textB X).extract 0 m) = none := by
  have hts := textB_size X
  by_cases h : m < (leb (X.size * 2)).length
  · refine cutV_none ?_
    unfold lenV
    refine lenGo_cut 8 0 0 (X.size * 2) ((leb (X.size * 2)).take m) ?_ ⟨(leb (X.size * 2)).drop m, ?_, List.take_append_drop _ _⟩
    · have e : (textB X).data.toList = leb (X.size * 2) ++ X.data.toList := by simp [textB]
      simp only [List.drop_zero, ByteArray.data_extract, Array.toList_extract, List.extract_eq_take_drop, Nat.sub_zero, e]
      rw [List.take_append_of_le_length (by omega)]
    · intro h2
      have := congrArg List.length h2
      simp at this
      omega
  · have h5 := leb5 (n := X.size) hX
    have hl : lenV ((textB X).extract 0 m) = some (X.size, (leb (X.size * 2)).length) := by
      have h1 : ((textB X).extract 0 m).data.toList.drop 0 = leb (X.size * 2) ++ (X.data.toList.take (m - (leb (X.size * 2)).length)) := by
        have e : (textB X).data.toList = leb (X.size * 2) ++ X.data.toList := by simp [textB]
        simp only [List.drop_zero, ByteArray.data_extract, Array.toList_extract, List.extract_eq_take_drop, Nat.sub_zero, e]
        rw [List.take_append, List.take_of_length_le (by omega)]
      have := lenGo_leb 8 0 0 (X.size * 2) h1 (by omega) (by simp) (.inl rfl)
      simp at this
      exact this
    refine cutV_long hl ?_
    simp
    omega
theorem recV_cut {k d : ByteArray} {m : Nat} (hk : k.size ≤ 65536) (hd : d.size ≤ 65536) (hm : m < (frameB k d).size) : recV ((frameB k d).extract 0 m) = none := by
  have h1 := textB_le (s := k) (by omega)
  have h2 := textB_le (s := d) (by omega)
  have h3 : (textB k ++ textB d).size ≤ 131082 := by rw [ByteArray.size_append]; omega
  have h4 := sealB_size (textB k ++ textB d)
  have hc := cutV_cut (X := sealB (textB k ++ textB d)) (m := m) (by omega) hm
  unfold recV
  unfold frameB
  rw [hc]
end Go.Proofs.Ytmflngpgmmgohaa
