/-
  Plain: what is reached in a graph; rounds of marks reach it.
-/
import Derived.Test.YteejlibiidiibaaGuard
namespace Go.Proofs.Yteejlibiidiibaa

abbrev Gr := List (List Int)
/-- What is reached from the nodes of S. -/
inductive Rch (E : Gr) (S : Nat → Bool) : Nat → Prop where
  | base (i : Nat) : S i = true → i < E.length → Rch E S i
  | step (i k : Nat) : Rch E S i → (k : Int) ∈ E.getD i [] → k < E.length → Rch E S k
def Sub (n : Nat) (S P : Nat → Bool) : Prop := ∀ i, i < n → S i = true → P i = true
/-- A round of marks: nothing is lost, each successor of a marked node is there, nothing comes that isn't reached. -/
structure Round (E : Gr) (S P : Nat → Bool) : Prop where
  keep : Sub E.length S P
  succ : ∀ i k : Nat, i < E.length → S i = true → (k : Int) ∈ E.getD i [] → k < E.length → P k = true
  only : ∀ k, k < E.length → P k = true → Rch E S k
theorem Rch.mono {E : Gr} {S P : Nat → Bool} (h : ∀ i, i < E.length → S i = true → Rch E P i) {k : Nat} (r : Rch E S k) : Rch E P k := by
  induction r with
  | base i h1 h2 => exact h i h2 h1
  | step i k _ h1 h2 ih => exact .step i k ih h1 h2
theorem Rch.closed {E : Gr} {S : Nat → Bool} (h : ∀ i k : Nat, i < E.length → S i = true → (k : Int) ∈ E.getD i [] → k < E.length → S k = true) {k : Nat} (r : Rch E S k) : S k = true ∧ k < E.length := by
  induction r with
  | base i h1 h2 => exact ⟨h1, h2⟩
  | step i k _ h1 h2 ih => exact ⟨h i k ih.2 ih.1 h1 h2, h2⟩
def cnt (n : Nat) (S : Nat → Bool) : Nat := (List.range n).countP S
theorem cnt_le (n : Nat) (S : Nat → Bool) : cnt n S ≤ n := by
  have := List.countP_le_length (p := S) (l := List.range n)
  simpa [cnt] using this
theorem cnt_mono {n : Nat} {S P : Nat → Bool} (h : Sub n S P) : cnt n S ≤ cnt n P :=
  List.countP_mono_left fun i hi hs => h i (List.mem_range.1 hi) hs
theorem cnt_lt : ∀ {n : Nat} {S P : Nat → Bool}, Sub n S P → (∃ i, i < n ∧ S i = false ∧ P i = true) → cnt n S < cnt n P
  | 0, _, _, _, ⟨i, hi, _⟩ => absurd hi (by omega)
  | n + 1, S, P, h, ⟨i, hi, h1, h2⟩ => by
    have e : ∀ Q : Nat → Bool, cnt (n + 1) Q = cnt n Q + if Q n then 1 else 0 := fun Q => by
      simp [cnt, List.range_succ, List.countP_append, List.countP_cons]
    have hs : Sub n S P := fun i hi => h i (by omega)
    have hm := cnt_mono hs
    rw [e, e]
    by_cases hin : i = n
    · subst hin
      rw [h1, h2]; simp; omega
    · have := cnt_lt hs ⟨i, by omega, h1, h2⟩
      have hn := h n (by omega)
      cases hS : S n
      · simp; omega
      · rw [hn hS]; simp; omega
/-- After as many rounds as there are nodes, and one, the marks are what is reached. -/
theorem rounds_reach (E : Gr) (f : Nat → Nat → Bool) (h : ∀ r, r ≤ E.length → Round E (f r) (f (r + 1))) : ∀ k, k < E.length → (f (E.length + 1) k = true ↔ Rch E (f 0) k) := by
  have only : ∀ r, r ≤ E.length + 1 → ∀ k, k < E.length → f r k = true → Rch E (f 0) k := by
    intro r
    induction r with
    | zero => intro _ k hk h1; exact .base k h1 hk
    | succ r ih =>
      intro hr k hk h1
      exact ((h r (by omega)).only k hk h1).mono fun i hi hs => ih (by omega) i hi hs
  have keep : ∀ r, r ≤ E.length + 1 → Sub E.length (f 0) (f r) := by
    intro r
    induction r with
    | zero => intro _ i _ h; exact h
    | succ r ih => intro hr i hi h1; exact (h r (by omega)).keep i hi (ih (by omega) i hi h1)
  -- some round adds nothing
  have stop : ∀ r, r ≤ E.length + 1 → (∃ q, q < r ∧ ∀ i, i < E.length → f (q + 1) i = true → f q i = true) ∨ r ≤ cnt E.length (f r) := by
    intro r
    induction r with
    | zero => intro _; right; omega
    | succ r ih =>
      intro hr
      rcases ih (by omega) with ⟨q, h1, h2⟩ | h1
      · exact .inl ⟨q, by omega, h2⟩
      · by_cases hx : ∃ i, i < E.length ∧ f r i = false ∧ f (r + 1) i = true
        · right
          have := cnt_lt (h r (by omega)).keep hx
          omega
        · left
          refine ⟨r, by omega, fun i hi h3 => ?_⟩
          cases h4 : f r i
          · exact absurd ⟨i, hi, h4, h3⟩ hx
          · rfl
  intro k hk
  refine ⟨only _ (Nat.le_refl _) k hk, fun hr => ?_⟩
  rcases stop (E.length + 1) (Nat.le_refl _) with ⟨q, hq, hstop⟩ | hbad
  · have hcl : ∀ i k : Nat, i < E.length → f q i = true → (k : Int) ∈ E.getD i [] → k < E.length → f q k = true := fun i k hi h1 h2 h3 => hstop k h3 ((h q (by omega)).succ i k hi h1 h2 h3)
    have hqk : f q k = true := ((hr.mono fun i hi h1 => Rch.base i (keep q (by omega) i hi h1) hi : Rch E (f q) k).closed hcl).1
    have up : ∀ d, q + d ≤ E.length + 1 → f (q + d) k = true := by
      intro d
      induction d with
      | zero => intro _; exact hqk
      | succ d ih => intro hd; exact (h (q + d) (by omega)).keep k hk (ih (by omega))
    have := up (E.length + 1 - q) (by omega)
    rwa [show q + (E.length + 1 - q) = E.length + 1 by omega] at this
  · have := cnt_le E.length (f (E.length + 1)); omega
end Go.Proofs.Yteejlibiidiibaa
