/-
  Rows of integers that a call owns: sort, compact.
-/
import Derived.Test.YtkppcibffbnhoaaShp
import Derived.Test.YtkppcibffbnhoaaK1
import Derived.Lib.OwnBridge
namespace Go.Proofs.Ytkppcibffbnhoaa
open Go.RowKit

def srtI (l : List Int) : List Int := l.mergeSort fun x y => decide (x ≤ y)
def AscI (l : List Int) : Prop := l.Pairwise (· < ·)
theorem srtI_pair (l : List Int) : (srtI l).Pairwise (· ≤ ·) := by
  have := List.pairwise_mergeSort (le := fun x y : Int => decide (x ≤ y)) (fun a b c h k => by simp only [decide_eq_true_eq] at *; omega) (fun a b => by simp only [Bool.or_eq_true, decide_eq_true_eq]; omega) l
  exact this.imp fun h => by simpa using h
theorem srtI_mem (l : List Int) (x : Int) : x ∈ srtI l ↔ x ∈ l := (List.mergeSort_perm l _).mem_iff
theorem srtI_len (l : List Int) : (srtI l).length = l.length := (List.mergeSort_perm l _).length_eq
theorem sorti_any (B : Nat) (v : Value) (xs : List Int) (hl : xs.length ≤ 1000000) (w : World) (hO : w.ownsRow B 3 1 v xs.length (ic xs)) :
    Calls Try.prog 50 #[v] w fun e w' => e = .returned (.tuple #[]) ∧ w'.ownsRow B 3 1 v (srtI xs).length (ic (srtI xs)) ∧ Below B w w' := by
  by_cases hn : xs = []
  · subst hn
    obtain ⟨p, cap, rfl⟩ := own_slice hO
    refine (Try.slices_Sort_int_none p cap w).mono ?_
    rintro e w1 ⟨rfl, hw⟩
    rw [hw]
    exact ⟨rfl, by simpa [srtI] using hO, Below.refl _ _⟩
  · have hv : v ≠ .slice none 0 0 := by
      rintro rfl
      rcases hO.2 with ⟨_, h2⟩ | ⟨g, cap, cur, h1, _⟩
      · exact hn (List.length_eq_zero_iff.1 h2)
      · cases h1
    have hO' : w.ownsRow B 3 1 v xs.length (xs.map (Value.int .i64)) := hO
    obtain ⟨g, cap, rfl, hb, hg, hnc, hm, hlen, hH⟩ := Lib.holds_of_ownsRow hO' hv
    refine (Try.slices_Sort_int g 0 cap xs w hH hg (by omega)).mono ?_
    rintro e w1 ⟨rfl, n, os, rfl⟩
    have hlen2 := srtI_len xs
    have h1 := Lib.ownsRow_putRow (q := n) (ys := srtI xs) (k := xs.length) hO' hlen2 (Nat.le_refl _)
    have h2 : Below B w (Sort.putRow (Value.int .i64) (Sort.ahead w n) g 0 (srtI xs).toArray) := Lib.below_putRow (Below.refl _ _) hb
    rw [List.take_of_length_le (by omega)] at h1
    have h3 : (Sort.putRow (Value.int .i64) (Sort.ahead w n) g 0 (srtI xs).toArray).ownsRow B 3 1 (.slice (some ⟨g, 0, none⟩) xs.length cap) (srtI xs).length (ic (srtI xs)) := by rw [hlen2]; exact h1
    have h4 : ∀ W : World, Below W.heap.size W (Sort.grow W os) := fun W => ⟨rfl, rfl, rfl, by simp [Sort.grow], fun k hk => by simp [Sort.grow, Array.getElem?_append, hk]⟩
    exact ⟨rfl, ownsRow_below h3 (h4 _) (Nat.le_refl _), h2.trans ((h4 _).mono (by simp [Sort.ahead]; omega))⟩
theorem compacti_len (xs : List Int) : (Lib.compact xs).length ≤ xs.length := by
  unfold Lib.compact Lib.compactUpTo
  rw [List.length_map]
  exact Nat.le_trans (List.length_filter_le _ _) (by simp)
theorem compacti_any (B : Nat) (v : Value) (xs : List Int) (hl : xs.length ≤ 1000000) (w : World) (hO : w.ownsRow B 3 1 v xs.length (ic xs)) :
    Calls Try.prog 51 #[v] w fun e w' => ∃ v', e = .returned v' ∧ w'.ownsRow B 3 1 v' (Lib.compact xs).length (ic (Lib.compact xs)) ∧ Below B w w' := by
  by_cases hn : xs = []
  · subst hn
    obtain ⟨p, cap, rfl⟩ := own_slice hO
    refine (Try.slices_Compact_int_empty p cap w).mono ?_
    rintro e w1 ⟨rfl, hw⟩
    rw [hw]
    exact ⟨_, rfl, by simpa [Lib.compact, Lib.compactUpTo] using hO, Below.refl _ _⟩
  · have hv : v ≠ .slice none 0 0 := by
      rintro rfl
      rcases hO.2 with ⟨_, h2⟩ | ⟨g, cap, cur, h1, _⟩
      · exact hn (List.length_eq_zero_iff.1 h2)
      · cases h1
    have hO' : w.ownsRow B 3 1 v xs.length (xs.map (Value.int .i64)) := hO
    obtain ⟨g, cap, rfl, hb, hg, hnc, hm, hlen, hH⟩ := Lib.holds_of_ownsRow hO' hv
    refine (Try.slices_Compact_int g 0 cap xs w hH (by omega) hnc).mono ?_
    rintro e w1 ⟨rfl, q, rfl⟩
    have hle := compacti_len xs
    have h1 := Lib.ownsRow_putRow (q := q) (ys := Lib.compact xs ++ List.replicate (xs.length - (Lib.compact xs).length) 0) (k := (Lib.compact xs).length) hO' (by simp; omega) hle
    rw [List.take_left] at h1
    exact ⟨_, rfl, h1, Lib.below_putRow (Below.refl _ _) hb⟩
theorem compacti_spec (l : List Int) (hl : l.Pairwise (· ≤ ·)) : ∀ m, m ≤ l.length → AscI (Lib.compactUpTo l.toArray m) ∧ ∀ x, x ∈ Lib.compactUpTo l.toArray m ↔ x ∈ l.take m := by
  intro m
  induction m with
  | zero => intro _; exact ⟨List.Pairwise.nil, fun x => by simp [Lib.compactUpTo]⟩
  | succ m ih =>
    intro hm
    obtain ⟨h1, h2⟩ := ih (by omega)
    have hg : ∀ j, j < l.length → ∃ h : j < l.length, l.toArray[j]! = l[j] := fun j hj => ⟨hj, by simp [hj]⟩
    obtain ⟨hml, hgm⟩ := hg m (by omega)
    rw [Lib.compactUpTo_succ, List.take_succ_eq_append_getElem hml]
    have hle : ∀ x ∈ l.take m, x ≤ l[m] := by
      intro x hx
      have hp := hl
      rw [← List.take_append_drop m l, List.pairwise_append] at hp
      exact hp.2.2 x hx l[m] (List.mem_of_getElem? (i := 0) (by rw [List.getElem?_drop, Nat.add_zero, List.getElem?_eq_getElem hml]))
    cases hk : Lib.keeps l.toArray m with
    | true =>
      rw [if_pos rfl, hgm]
      refine ⟨?_, fun x => by rw [List.mem_append, List.mem_append, h2]⟩
      unfold AscI
      rw [List.pairwise_append]
      refine ⟨h1, by simp, fun x hx y hy => ?_⟩
      rw [List.mem_singleton] at hy
      subst hy
      rw [h2] at hx
      unfold Lib.keeps at hk
      rw [decide_eq_true_eq] at hk
      rcases hk with rfl | hk
      · simp at hx
      · obtain ⟨hm1, hg1⟩ := hg (m - 1) (by omega)
        rw [hgm, hg1] at hk
        have h0 : m ≠ 0 := by rintro rfl; simp at hx
        have h3 : l[m - 1] ≤ l[m] := by
          rw [List.pairwise_iff_getElem] at hl
          exact hl (m - 1) m hm1 hml (by omega)
        have h4 : x ≤ l[m - 1] := by
          obtain ⟨j, hj, rfl⟩ := List.getElem_of_mem hx
          rw [List.getElem_take]
          simp at hj
          by_cases hjm : j = m - 1
          · subst hjm; exact (Int.le_total _ _).elim id id
          · rw [List.pairwise_iff_getElem] at hl
            exact hl j (m - 1) (by omega) hm1 (by omega)
        exact Int.lt_of_le_of_lt h4 (Int.lt_iff_le_and_ne.2 ⟨h3, Ne.symm hk⟩)
    | false =>
      simp only [Bool.false_eq_true, if_false, List.append_nil]
      refine ⟨h1, fun x => ?_⟩
      rw [h2, List.mem_append, List.mem_singleton]
      unfold Lib.keeps at hk
      rw [decide_eq_false_iff_not] at hk
      have h0 : m ≠ 0 := fun h => hk (.inl h)
      obtain ⟨hm1, hg1⟩ := hg (m - 1) (by omega)
      have he : l[m] = l[m - 1] := by
        apply Classical.byContradiction
        intro hne
        exact hk (.inr (by rw [hgm, hg1]; exact hne))
      constructor
      · exact .inl
      · rintro (h | rfl)
        · exact h
        · rw [he]
          rw [List.mem_take_iff_getElem]
          exact ⟨m - 1, by omega, rfl⟩
theorem compacti_asc (l : List Int) : AscI (Lib.compact (srtI l)) ∧ ∀ x, x ∈ Lib.compact (srtI l) ↔ x ∈ l := by
  have := compacti_spec (srtI l) (srtI_pair l) (srtI l).length (Nat.le_refl _)
  rw [List.take_length] at this
  exact ⟨this.1, fun x => (this.2 x).trans (srtI_mem l x)⟩
end Go.Proofs.Ytkppcibffbnhoaa
