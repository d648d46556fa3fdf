/-
  Plain laws of sets of names: ascending lists.
-/
import Derived.Lib.SlicesCompact
namespace Go.Names

abbrev Nm := List UInt8
theorem lt_tr {a b c : Nm} (h : a < b) (k : b < c) : a < c := List.lt_trans h k
theorem le_of_not {a b : Nm} (h : ¬ a < b) : b ≤ a := h
theorem lt_irr (a : Nm) : ¬ a < a := List.lt_irrefl a
theorem le_tr {a b c : Nm} (h : a ≤ b) (k : b ≤ c) : a ≤ c := List.le_trans h k
theorem le_tot (a b : Nm) : a ≤ b ∨ b ≤ a := List.le_total a b
theorem le_asym {a b : Nm} (h : a ≤ b) (k : b ≤ a) : a = b := List.le_antisymm h k
theorem lt_of_le_ne {a b : Nm} (h : a ≤ b) (k : a ≠ b) : a < b := by
  apply Classical.byContradiction
  intro hc
  exact k (le_asym h (le_of_not hc))
theorem le_lt {a b c : Nm} (h : a ≤ b) (k : b < c) : a < c := by
  apply Classical.byContradiction
  intro hc
  have : c ≤ a := le_of_not hc
  exact (show ¬ b < c from le_tr this h) k
def Asc (l : List Nm) : Prop := l.Pairwise (· < ·)
/-- Two ascending lists with the same members are one. -/
theorem asc_ext : ∀ {l m : List Nm}, Asc l → Asc m → (∀ x, x ∈ l ↔ x ∈ m) → l = m := by
  intro l
  induction l with
  | nil =>
    intro m _ _ h
    cases m with
    | nil => rfl
    | cons b q => exact absurd ((h b).2 (by simp)) (by simp)
  | cons a r ih =>
    intro m hl hm h
    cases m with
    | nil => exact absurd ((h a).1 (by simp)) (by simp)
    | cons b q =>
      unfold Asc at hl hm
      rw [List.pairwise_cons] at hl hm
      have hab : a = b := by
        have h1 := (h a).1 (by simp)
        have h2 := (h b).2 (by simp)
        rw [List.mem_cons] at h1 h2
        rcases h1 with h1 | h1
        · exact h1
        · rcases h2 with h2 | h2
          · exact h2.symm
          · exact absurd (lt_tr (hm.1 a h1) (hl.1 b h2)) (lt_irr b)
      subst hab
      congr 1
      refine ih hl.2 hm.2 fun x => ?_
      have := h x
      simp only [List.mem_cons] at this
      constructor
      · intro hx
        rcases this.1 (.inr hx) with h3 | h3
        · subst h3; exact absurd (hl.1 x hx) (lt_irr x)
        · exact h3
      · intro hx
        rcases this.2 (.inr hx) with h3 | h3
        · subst h3; exact absurd (hm.1 x hx) (lt_irr x)
        · exact h3
def srt (l : List Nm) : List Nm := l.mergeSort fun x y => decide (x ≤ y)
theorem srt_pair (l : List Nm) : (srt l).Pairwise (· ≤ ·) := by
  have := List.pairwise_mergeSort (le := fun x y : Nm => decide (x ≤ y)) (fun a b c h k => by simp only [decide_eq_true_eq] at *; exact le_tr h k) (fun a b => by simp only [Bool.or_eq_true, decide_eq_true_eq]; exact le_tot a b) l
  exact this.imp fun h => by simpa using h
theorem srt_mem (l : List Nm) (x : Nm) : x ∈ srt l ↔ x ∈ l := (List.mergeSort_perm l _).mem_iff
theorem compact_spec (l : List Nm) (hl : l.Pairwise (· ≤ ·)) : ∀ m, m ≤ l.length → Asc (Lib.compactUpTo l.toArray m) ∧ ∀ x, x ∈ Lib.compactUpTo l.toArray m ↔ x ∈ l.take m := by
  intro m
  induction m with
  | zero => intro _; exact ⟨List.Pairwise.nil, fun x => by simp [Lib.compactUpTo]⟩
  | succ m ih =>
    intro hm
    obtain ⟨h1, h2⟩ := ih (by omega)
    have hg : ∀ j, j < l.length → ∃ h : j < l.length, l.toArray[j]! = l[j] := fun j hj => ⟨hj, by simp [hj]⟩
    obtain ⟨hml, hgm⟩ := hg m (by omega)
    rw [Lib.compactUpTo_succ, List.take_succ_eq_append_getElem hml]
    have hle : ∀ x ∈ l.take m, x ≤ l[m] := by
      intro x hx
      have hp := hl
      rw [← List.take_append_drop m l, List.pairwise_append] at hp
      exact hp.2.2 x hx l[m] (List.mem_of_getElem? (i := 0) (by rw [List.getElem?_drop, Nat.add_zero, List.getElem?_eq_getElem hml]))
    cases hk : Lib.keeps l.toArray m with
    | true =>
      rw [if_pos rfl, hgm]
      refine ⟨?_, fun x => by rw [List.mem_append, List.mem_append, h2]⟩
      unfold Asc
      rw [List.pairwise_append]
      refine ⟨h1, by simp, fun x hx y hy => ?_⟩
      rw [List.mem_singleton] at hy
      subst hy
      rw [h2] at hx
      unfold Lib.keeps at hk
      rw [decide_eq_true_eq] at hk
      rcases hk with rfl | hk
      · simp at hx
      · obtain ⟨hm1, hg1⟩ := hg (m - 1) (by omega)
        rw [hgm, hg1] at hk
        have h0 : m ≠ 0 := by rintro rfl; simp at hx
        have h3 : l[m - 1] ≤ l[m] := by
          rw [List.pairwise_iff_getElem] at hl
          exact hl (m - 1) m hm1 hml (by omega)
        have h4 : x ≤ l[m - 1] := by
          obtain ⟨j, hj, rfl⟩ := List.getElem_of_mem hx
          rw [List.getElem_take]
          simp at hj
          by_cases hjm : j = m - 1
          · subst hjm; exact (le_tot _ _).elim id id
          · rw [List.pairwise_iff_getElem] at hl
            exact hl j (m - 1) (by omega) hm1 (by omega)
        exact le_lt h4 (lt_of_le_ne h3 (Ne.symm hk))
    | false =>
      simp only [Bool.false_eq_true, if_false, List.append_nil]
      refine ⟨h1, fun x => ?_⟩
      rw [h2, List.mem_append, List.mem_singleton]
      unfold Lib.keeps at hk
      rw [decide_eq_false_iff_not] at hk
      have h0 : m ≠ 0 := fun h => hk (.inl h)
      obtain ⟨hm1, hg1⟩ := hg (m - 1) (by omega)
      have he : l[m] = l[m - 1] := by
        apply Classical.byContradiction
        intro hne
        exact hk (.inr (by rw [hgm, hg1]; exact hne))
      constructor
      · exact .inl
      · rintro (h | rfl)
        · exact h
        · rw [he]
          rw [List.mem_take_iff_getElem]
          exact ⟨m - 1, by omega, rfl⟩
/-- The normal form of a list. -/
def nrm (l : List Nm) : List Nm := Lib.compact (srt l)
theorem nrm_asc (l : List Nm) : Asc (nrm l) := (compact_spec (srt l) (srt_pair l) _ (Nat.le_refl _)).1
theorem nrm_mem (l : List Nm) (x : Nm) : x ∈ nrm l ↔ x ∈ l := by
  have := (compact_spec (srt l) (srt_pair l) _ (Nat.le_refl _)).2 x
  rw [List.take_length, srt_mem] at this
  exact this
theorem nrm_of {l m : List Nm} (hm : Asc m) (h : ∀ x, x ∈ m ↔ x ∈ l) : m = nrm l := asc_ext hm (nrm_asc l) fun x => by rw [h, nrm_mem]
theorem nrm_congr {l m : List Nm} (h : ∀ x, x ∈ l ↔ x ∈ m) : nrm l = nrm m := asc_ext (nrm_asc l) (nrm_asc m) fun x => by rw [nrm_mem, nrm_mem, h]
theorem nrm_nrm (l : List Nm) : nrm (nrm l) = nrm l := nrm_congr fun x => nrm_mem l x
theorem nrm_len (l : List Nm) : (nrm l).length ≤ l.length := by
  have h1 : (nrm l).length ≤ (srt l).length := by
    unfold nrm Lib.compact Lib.compactUpTo
    rw [List.length_map]
    exact Nat.le_trans (List.length_filter_le _ _) (by simp)
  have : (srt l).length = l.length := (List.mergeSort_perm l _).length_eq
  omega
/-- A set: whether it is cofinite, and its list. -/
def has (c : Bool) (l : List Nm) (x : Nm) : Bool := decide (x ∈ l) != c
def ascB (l : List Nm) : Bool := (List.range (l.length - 1)).all fun i => decide (l.getD i [] < l.getD (i + 1) [])
/-- The list of an intersection. -/
def interL (c1 : Bool) (l1 : List Nm) (c2 : Bool) (l2 : List Nm) : List Nm :=
  match c1, c2 with
  | true, true => nrm l1 ++ nrm l2
  | true, false => (nrm l2).filter fun x => !decide (x ∈ nrm l1)
  | false, true => (nrm l1).filter fun x => !decide (x ∈ nrm l2)
  | false, false => (nrm l1).filter fun x => decide (x ∈ nrm l2)
theorem interL_mem (c1 : Bool) (l1 : List Nm) (c2 : Bool) (l2 : List Nm) (x : Nm) : decide (x ∈ interL c1 l1 c2 l2) = ((has c1 l1 x && has c2 l2 x) != (c1 && c2)) := by
  cases c1 <;> cases c2 <;> simp [interL, has, nrm_mem, List.mem_filter] <;> (by_cases h1 : x ∈ l1 <;> by_cases h2 : x ∈ l2 <;> simp [h1, h2])
end Go.Names
