/-
  Plain: heaps in lists.
-/
import Derived.Test.YteejlibiidiibaaH1
namespace Go.Proofs.Yteejlibiidiibaa
abbrev gt (xs : List Int) (k : Nat) : Int := xs.getD k 0
theorem gt_at {xs : List Int} {k : Nat} (h : k < xs.length) : gt xs k = xs[k] := by simp [gt, h]
theorem swp_len (xs : List Int) (i j : Nat) : (swp xs i j).length = xs.length := by simp [swp]
theorem swp_get {xs : List Int} {i j : Nat} (hi : i < xs.length) (hj : j < xs.length) (k : Nat) : gt (swp xs i j) k = if k = j then gt xs i else if k = i then gt xs j else gt xs k := by
  simp only [gt, swp, List.getD_eq_getElem?_getD, List.getElem?_set, List.length_set]
  by_cases e1 : j = k
  · subst e1; simp [hi, hj]
  · by_cases e2 : i = k
    · subst e2; simp [hi, e1, Ne.symm e1]
    · simp [e1, e2, Ne.symm e1, Ne.symm e2]
theorem swp_perm {xs : List Int} {i j : Nat} (hi : i < xs.length) (hj : j < xs.length) : (swp xs i j).Perm xs := by
  rw [List.perm_iff_count]
  intro a
  unfold swp
  have h1 : xs.getD i 0 = xs[i] := by simp [hi]
  have h2 : xs.getD j 0 = xs[j] := by simp [hj]
  rw [h1, h2, List.count_set (by simpa using hj), List.count_set hi, List.getElem_set]
  have hc : (if xs[i] == a then 1 else 0) ≤ xs.count a := by
    split
    · rename_i h
      have : xs[i] = a := by simpa using h
      rw [← this]
      exact List.count_pos_iff.2 (List.getElem_mem hi)
    · omega
  by_cases e : i = j
  · subst e
    simp only [if_true]
    split <;> split at hc <;> omega
  · rw [if_neg e]
    split <;> split <;> split at hc <;> omega
/-- The first n are a heap. -/
def Heap (xs : List Int) (n : Nat) : Prop := ∀ k, k < n → 0 < k → gt xs ((k - 1) / 2) ≤ gt xs k
theorem Heap.min {xs : List Int} {n : Nat} (h : Heap xs n) : ∀ k, k < n → gt xs 0 ≤ gt xs k := by
  intro k
  induction k using Nat.strongRecOn with
  | _ k ih =>
    intro hk
    rcases Nat.eq_zero_or_pos k with rfl | h0
    · exact Int.le_refl _
    · exact Int.le_trans (ih ((k - 1) / 2) (by omega) (by omega)) (h k hk h0)
/-- A heap but for the place j, on the way up. -/
structure HUp (xs : List Int) (j : Nat) : Prop where
  lt : j < xs.length
  ord : ∀ k, k < xs.length → 0 < k → k ≠ j → gt xs ((k - 1) / 2) ≤ gt xs k
  kid : ∀ k, k < xs.length → 0 < k → (k - 1) / 2 = j → 0 < j → gt xs ((j - 1) / 2) ≤ gt xs k
theorem HUp.stop {xs : List Int} {j : Nat} (h : HUp xs j) (hs : j = 0 ∨ gt xs ((j - 1) / 2) ≤ gt xs j) : Heap xs xs.length := by
  intro k hk h0
  by_cases e : k = j
  · subst e
    rcases hs with h1 | h1
    · omega
    · exact h1
  · exact h.ord k hk h0 e
theorem HUp.step {xs : List Int} {j : Nat} (h : HUp xs j) (h0 : 0 < j) (hs : gt xs j < gt xs ((j - 1) / 2)) : HUp (swp xs ((j - 1) / 2) j) ((j - 1) / 2) := by
  have hj := h.lt
  have hi : (j - 1) / 2 < xs.length := by omega
  have hij : (j - 1) / 2 ≠ j := by omega
  refine ⟨by rw [swp_len]; exact hi, fun k hk hk0 hne => ?_, fun k hk hk0 he hi0 => ?_⟩
  · rw [swp_len] at hk
    rw [swp_get hi hj, swp_get hi hj]
    by_cases e1 : k = j
    · subst e1
      rw [if_pos rfl, if_neg hij, if_pos rfl]; omega
    · rw [if_neg e1, if_neg hne]
      by_cases e2 : (k - 1) / 2 = j
      · rw [if_pos e2]; exact h.kid k hk hk0 e2 h0
      · rw [if_neg e2]
        by_cases e3 : (k - 1) / 2 = (j - 1) / 2
        · rw [if_pos e3]
          have := h.ord k hk hk0 e1
          rw [e3] at this; omega
        · rw [if_neg e3]; exact h.ord k hk hk0 e1
  · rw [swp_len] at hk
    rw [swp_get hi hj, swp_get hi hj]
    have hp := h.ord ((j - 1) / 2) hi hi0 hij
    have e0 : ((j - 1) / 2 - 1) / 2 ≠ j := by omega
    have e1 : ((j - 1) / 2 - 1) / 2 ≠ (j - 1) / 2 := by omega
    rw [if_neg e0, if_neg e1]
    by_cases e2 : k = j
    · subst e2; rw [if_pos rfl]; exact hp
    · rw [if_neg e2, if_neg (by omega)]
      have := h.ord k hk hk0 e2
      rw [he] at this; omega
/-- The first n are a heap but for the place i, on the way down. -/
structure HDn (xs : List Int) (n i : Nat) : Prop where
  le : n ≤ xs.length
  ord : ∀ k, k < n → 0 < k → (k - 1) / 2 ≠ i → gt xs ((k - 1) / 2) ≤ gt xs k
  kid : ∀ k, k < n → 0 < k → (k - 1) / 2 = i → 0 < i → gt xs ((i - 1) / 2) ≤ gt xs k
theorem HDn.stop {xs : List Int} {n i : Nat} (h : HDn xs n i) (hs : ∀ k, k < n → 0 < k → (k - 1) / 2 = i → gt xs i ≤ gt xs k) : Heap xs n := by
  intro k hk h0
  by_cases e : (k - 1) / 2 = i
  · rw [e]; exact hs k hk h0 e
  · exact h.ord k hk h0 e
theorem HDn.step {xs : List Int} {n i j : Nat} (h : HDn xs n i) (hj : j < n) (hj0 : 0 < j) (hp : (j - 1) / 2 = i) (hm : ∀ k, k < n → 0 < k → (k - 1) / 2 = i → gt xs j ≤ gt xs k) (hs : gt xs j < gt xs i) : HDn (swp xs i j) n j := by
  have hl := h.le
  have hij : i ≠ j := by omega
  have hi : i < xs.length := by omega
  have hjl : j < xs.length := by omega
  refine ⟨by rw [swp_len]; exact hl, fun k hk hk0 hne => ?_, fun k hk hk0 he _ => ?_⟩
  · rw [swp_get hi hjl, swp_get hi hjl]
    rw [if_neg hne]
    by_cases e1 : (k - 1) / 2 = i
    · rw [if_pos e1]
      by_cases e2 : k = j
      · subst e2; rw [if_pos rfl]; omega
      · rw [if_neg e2, if_neg (by omega)]; exact hm k hk hk0 e1
    · rw [if_neg e1]
      by_cases e2 : k = j
      · subst e2; exact absurd hp e1
      · rw [if_neg e2]
        by_cases e3 : k = i
        · subst e3
          rw [if_pos rfl]
          exact h.kid j hj hj0 hp hk0
        · rw [if_neg e3]; exact h.ord k hk hk0 e1
  · rw [swp_get hi hjl, swp_get hi hjl]
    rw [hp, if_neg hij, if_pos rfl, if_neg (by omega), if_neg (by omega)]
    have := h.ord k hk hk0 (by omega)
    rw [he] at this; exact this
end Go.Proofs.Yteejlibiidiibaa
