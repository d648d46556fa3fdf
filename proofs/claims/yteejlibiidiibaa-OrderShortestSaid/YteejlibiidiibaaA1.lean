/-
  Plain: the marks of the reference's rounds are what is reached.
-/
import Derived.Test.YteejlibiidiibaaC3
namespace Go.Proofs.Yteejlibiidiibaa
theorem nodeB_iff {n : Nat} {x : Int} : nodeB n x = true ↔ 0 ≤ x ∧ x < (n : Int) := by simp [nodeB]
theorem nodeB_nat {n k : Nat} : nodeB n (k : Int) = decide (k < n) := by simp [nodeB]
def setM (f : Nat → Bool) (k : Nat) : Nat → Bool := fun m => if m = k then true else f m
def stepM (n i : Nat) (f : Nat → Bool) (x : Int) : Nat → Bool := if f i && nodeB n x then setM f x.toNat else f
def rowM (n i : Nat) (f : Nat → Bool) (l : List Int) : Nat → Bool := l.foldl (stepM n i) f
def preM (E : Gr) (f : Nat → Bool) (k : Nat) : Nat → Bool := (List.range k).foldl (fun g i => rowM E.length i g (E.getD i [])) f
def iterM (E : Gr) (f : Nat → Bool) : Nat → Nat → Bool
  | 0 => f
  | r + 1 => preM E (iterM E f r) E.length
theorem preM_succ (E : Gr) (f : Nat → Bool) (k : Nat) : preM E f (k + 1) = rowM E.length k (preM E f k) (E.getD k []) := by
  unfold preM; rw [List.range_succ, List.foldl_append]; rfl
theorem rowM_snoc (n i : Nat) (f : Nat → Bool) (l : List Int) (x : Int) : rowM n i f (l ++ [x]) = stepM n i (rowM n i f l) x := by
  unfold rowM; rw [List.foldl_append]; rfl
theorem setM_keep {f : Nat → Bool} {k m : Nat} (h : f m = true) : setM f k m = true := by unfold setM; split <;> simp [h]
theorem stepM_keep {n i : Nat} {f : Nat → Bool} {x : Int} {m : Nat} (h : f m = true) : stepM n i f x m = true := by
  unfold stepM; split
  · exact setM_keep h
  · exact h
theorem rowM_keep {n i : Nat} : ∀ {l : List Int} {f : Nat → Bool} {m : Nat}, f m = true → rowM n i f l m = true
  | [], _, _, h => h
  | x :: l, f, m, h => by
    show rowM n i (stepM n i f x) l m = true
    exact rowM_keep (stepM_keep h)
theorem rowM_succ {n i : Nat} : ∀ {l : List Int} {f : Nat → Bool} {x : Int}, f i = true → x ∈ l → nodeB n x = true → rowM n i f l x.toNat = true
  | y :: l, f, x, hi, hx, hn => by
    show rowM n i (stepM n i f y) l x.toNat = true
    rcases List.mem_cons.1 hx with rfl | hx
    · refine rowM_keep ?_
      unfold stepM
      rw [hi, hn]
      simp [setM]
    · exact rowM_succ (stepM_keep hi) hx hn
theorem rowM_only {n i : Nat} : ∀ {l : List Int} {f : Nat → Bool} {m : Nat}, rowM n i f l m = true → f m = true ∨ (f i = true ∧ (m : Int) ∈ l ∧ m < n)
  | [], _, _, h => .inl h
  | y :: l, f, m, h => by
    rcases rowM_only (l := l) (f := stepM n i f y) h with h1 | ⟨h1, h2, h3⟩
    · unfold stepM at h1
      split at h1
      · rename_i hc
        rw [Bool.and_eq_true] at hc
        unfold setM at h1
        split at h1
        · rename_i he
          obtain ⟨c1, c2⟩ := nodeB_iff.1 hc.2
          refine .inr ⟨hc.1, ?_, by omega⟩
          have : (m : Int) = y := by omega
          rw [this]; simp
        · exact .inl h1
      · exact .inl h1
    · have h4 : f i = true := by
        unfold stepM at h1
        split at h1
        · rename_i hc; rw [Bool.and_eq_true] at hc; exact hc.1
        · exact h1
      exact .inr ⟨h4, List.mem_cons_of_mem _ h2, h3⟩
theorem preM_keep {E : Gr} {f : Nat → Bool} {k m : Nat} (h : f m = true) : preM E f k m = true := by
  induction k with
  | zero => exact h
  | succ k ih => rw [preM_succ]; exact rowM_keep ih
theorem preM_mono {E : Gr} {f : Nat → Bool} {k d m : Nat} (h : preM E f k m = true) : preM E f (k + d) m = true := by
  induction d with
  | zero => exact h
  | succ d ih => rw [← Nat.add_assoc, preM_succ]; exact rowM_keep ih
theorem preM_only {E : Gr} {f : Nat → Bool} : ∀ {k m : Nat}, k ≤ E.length → m < E.length → preM E f k m = true → Rch E f m
  | 0, m, _, hm, h => .base m h hm
  | k + 1, m, hk, hm, h => by
    rw [preM_succ] at h
    rcases rowM_only h with h1 | ⟨h1, h2, h3⟩
    · exact preM_only (by omega) hm h1
    · exact .step k m (preM_only (by omega) (by omega) h1) h2 hm
theorem round_preM (E : Gr) (f : Nat → Bool) : Round E f (preM E f E.length) where
  keep := fun _ _ h => preM_keep h
  succ := fun i k hi h1 h2 hk => by
    have h3 : preM E f (i + 1) k = true := by
      rw [preM_succ]
      have := rowM_succ (n := E.length) (preM_keep (E := E) (k := i) h1) h2 (by rw [nodeB_nat]; simpa using hk)
      simpa using this
    have := preM_mono (d := E.length - (i + 1)) h3
    rwa [show i + 1 + (E.length - (i + 1)) = E.length by omega] at this
  only := fun k hk h => preM_only (Nat.le_refl _) hk h
/-- Is k reached from S? -/
noncomputable def rb (E : Gr) (S : Nat → Bool) (k : Nat) : Bool := @decide (Rch E S k) (Classical.propDecidable _)
theorem rb_iff {E : Gr} {S : Nat → Bool} {k : Nat} : rb E S k = true ↔ Rch E S k := by unfold rb; exact @decide_eq_true_iff _ (Classical.propDecidable _)
theorem iterM_rb (E : Gr) (f : Nat → Bool) {k : Nat} (hk : k < E.length) : iterM E f (E.length + 1) k = rb E f k := by
  rw [Bool.eq_iff_iff, rb_iff]
  exact rounds_reach E (iterM E f) (fun r _ => round_preM E (iterM E f r)) k hk
theorem marked_congr {n : Nat} {f g : Nat → Bool} (h : ∀ k, k < n → f k = g k) : marked n f = marked n g := by
  unfold marked
  rw [List.filter_congr]
  intro x hx
  exact h x (List.mem_range.1 hx)
/-- The set of a list's nodes. -/
def inS (F : List Int) (k : Nat) : Bool := decide ((k : Int) ∈ F)
end Go.Proofs.Yteejlibiidiibaa
