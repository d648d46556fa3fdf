/-
  Plain: Reach's work: what it keeps, and that it ends at what is reached.
-/
import Derived.Test.YteejlibiidiibaaE2
namespace Go.Proofs.Yteejlibiidiibaa
theorem stepW_len {n : Nat} {s : (Nat → Bool) × List Int} {x : Int} : (stepW n s x).2.length + cnt n s.1 ≤ s.2.length + cnt n (stepW n s x).1 := by
  unfold stepW
  split
  · rename_i hc
    rw [Bool.and_eq_true] at hc
    obtain ⟨h1, h2⟩ := nodeB_iff.1 hc.1
    have h3 : s.1 x.toNat = false := by simpa using hc.2
    have := cnt_set (n := n) (k := x.toNat) (by omega) h3
    simp; omega
  · exact Nat.le_refl _
theorem addW_len {n : Nat} : ∀ {F : List Int} {s : (Nat → Bool) × List Int}, (addW n s F).2.length + cnt n s.1 ≤ s.2.length + cnt n (addW n s F).1
  | [], _ => Nat.le_refl _
  | x :: F, s => by
    have h1 := addW_len (n := n) (F := F) (s := stepW n s x)
    have h2 := stepW_len (n := n) (s := s) (x := x)
    show (addW n (stepW n s x) F).2.length + cnt n s.1 ≤ s.2.length + cnt n (addW n (stepW n s x) F).1
    omega
/-- What a list's nodes add. -/
structure Adds (n : Nat) (s t : (Nat → Bool) × List Int) (F : List Int) : Prop where
  keep : ∀ m, s.1 m = true → t.1 m = true
  work : ∀ x, x ∈ s.2 → x ∈ t.2
  all : ∀ x, x ∈ F → nodeB n x = true → t.1 x.toNat = true
  only : ∀ m, m < n → t.1 m = true → s.1 m = true ∨ ((m : Int) ∈ F ∧ (m : Int) ∈ t.2)
  from' : ∀ x, x ∈ t.2 → x ∈ s.2 ∨ (x ∈ F ∧ nodeB n x = true ∧ t.1 x.toNat = true)
theorem addW_adds {n : Nat} : ∀ {F : List Int} {s : (Nat → Bool) × List Int}, Adds n s (addW n s F) F
  | [], s => ⟨fun _ h => h, fun _ h => h, fun _ h => (by cases h), fun _ _ h => .inl h, fun _ h => .inl h⟩
  | y :: F, s => by
    have h := addW_adds (n := n) (F := F) (s := stepW n s y)
    have e : addW n s (y :: F) = addW n (stepW n s y) F := rfl
    rw [e]
    generalize addW n (stepW n s y) F = t at *
    by_cases hc : (nodeB n y && !s.1 y.toNat) = true
    · have hs : stepW n s y = (setM s.1 y.toNat, s.2 ++ [y]) := by unfold stepW; rw [if_pos hc]
      rw [hs] at h
      rw [Bool.and_eq_true] at hc
      have hy : t.1 y.toNat = true := h.keep _ (by simp [setM])
      refine ⟨fun m hm => h.keep m (setM_keep hm), fun x hx => h.work x (by simp [hx]), fun x hx hn => ?_, fun m hm ht => ?_, fun x hx => ?_⟩
      · rcases List.mem_cons.1 hx with rfl | hx
        · exact hy
        · exact h.all x hx hn
      · rcases h.only m hm ht with h1 | ⟨h1, h2⟩
        · simp only [setM] at h1
          split at h1
          · rename_i he
            obtain ⟨c1, c2⟩ := nodeB_iff.1 hc.1
            have : (m : Int) = y := by omega
            refine .inr ⟨by rw [this]; simp, h.work _ (by rw [this]; simp)⟩
          · exact .inl h1
        · exact .inr ⟨List.mem_cons_of_mem _ h1, h2⟩
      · rcases h.from' x hx with h1 | ⟨h1, h2, h3⟩
        · rcases List.mem_append.1 h1 with h1 | h1
          · exact .inl h1
          · rw [List.mem_singleton] at h1; subst h1
            exact .inr ⟨by simp, hc.1, hy⟩
        · exact .inr ⟨List.mem_cons_of_mem _ h1, h2, h3⟩
    · have hs : stepW n s y = s := by unfold stepW; rw [if_neg hc]
      rw [hs] at h
      refine ⟨h.keep, h.work, fun x hx hn => ?_, fun m hm ht => ?_, fun x hx => ?_⟩
      · rcases List.mem_cons.1 hx with rfl | hx
        · rw [hn, Bool.true_and, Bool.not_eq_true', Bool.not_eq_false] at hc
          exact h.keep _ hc
        · exact h.all x hx hn
      · rcases h.only m hm ht with h1 | ⟨h1, h2⟩
        · exact .inl h1
        · exact .inr ⟨List.mem_cons_of_mem _ h1, h2⟩
      · rcases h.from' x hx with h1 | ⟨h1, h2⟩
        · exact .inl h1
        · exact .inr ⟨List.mem_cons_of_mem _ h1, h2⟩
/-- What Reach keeps. -/
structure PW (E : Gr) (S : Nat → Bool) (s : (Nat → Bool) × List Int) : Prop where
  node : ∀ x, x ∈ s.2 → nodeB E.length x = true
  mrk : ∀ x, x ∈ s.2 → s.1 x.toNat = true
  only : ∀ k, k < E.length → s.1 k = true → Rch E S k
  base : ∀ k, k < E.length → S k = true → s.1 k = true
  clos : ∀ i, i < E.length → s.1 i = true → (i : Int) ∈ s.2 ∨ ∀ k : Nat, (k : Int) ∈ E.getD i [] → k < E.length → s.1 k = true
theorem PW.init (E : Gr) (F : List Int) : PW E (inS F) (addW E.length (fun _ => false, []) F) := by
  have h := addW_adds (n := E.length) (F := F) (s := (fun _ => false, []))
  generalize addW E.length (fun _ => false, []) F = t at *
  refine ⟨fun x hx => ?_, fun x hx => ?_, fun k hk ht => ?_, fun k hk hS => ?_, fun i hi ht => ?_⟩
  · rcases h.from' x hx with h1 | ⟨_, h2, _⟩
    · cases h1
    · exact h2
  · rcases h.from' x hx with h1 | ⟨_, _, h2⟩
    · cases h1
    · exact h2
  · rcases h.only k hk ht with h1 | ⟨h1, _⟩
    · cases h1
    · exact .base k (by simpa [inS] using h1) hk
  · have := h.all k (by simpa [inS] using hS) (by rw [nodeB_nat]; simpa using hk)
    simpa using this
  · rcases h.only i hi ht with h1 | ⟨_, h2⟩
    · cases h1
    · exact .inl h2
theorem PW.step {E : Gr} {S : Nat → Bool} {f : Nat → Bool} {W : List Int} {i : Nat} (H : PW E S (f, W ++ [(i : Int)])) (hi : i < E.length) : PW E S (addW E.length (f, W) (E.getD i [])) := by
  have h := addW_adds (n := E.length) (F := E.getD i []) (s := (f, W))
  generalize addW E.length (f, W) (E.getD i []) = t at *
  have hfi : f i = true := by have := H.mrk i (by simp); simpa using this
  have hri := H.only i hi hfi
  refine ⟨fun x hx => ?_, fun x hx => ?_, fun k hk ht => ?_, fun k hk hS => h.keep k (H.base k hk hS), fun j hj ht => ?_⟩
  · rcases h.from' x hx with h1 | ⟨_, h2, _⟩
    · exact H.node x (by simp [show x ∈ W from h1])
    · exact h2
  · rcases h.from' x hx with h1 | ⟨_, _, h2⟩
    · exact h.keep _ (H.mrk x (by simp [show x ∈ W from h1]))
    · exact h2
  · rcases h.only k hk ht with h1 | ⟨h1, _⟩
    · exact H.only k hk h1
    · exact .step i k hri h1 hk
  · rcases h.only j hj ht with h1 | ⟨_, h2⟩
    · rcases H.clos j hj h1 with h2 | h2
      · rcases List.mem_append.1 (show (j : Int) ∈ W ++ [(i : Int)] from h2) with h3 | h3
        · exact .inl (h.work _ h3)
        · rw [List.mem_singleton] at h3
          obtain rfl : j = i := by omega
          refine .inr fun k hk hkn => ?_
          have := h.all k hk (by rw [nodeB_nat]; simpa using hkn)
          simpa using this
      · exact .inr fun k hk hkn => h.keep k (h2 k hk hkn)
    · exact .inl h2
theorem PW.done {E : Gr} {S : Nat → Bool} {f : Nat → Bool} (H : PW E S (f, [])) {k : Nat} (hk : k < E.length) : f k = rb E S k := by
  rw [Bool.eq_iff_iff, rb_iff]
  refine ⟨H.only k hk, fun r => ?_⟩
  have h1 : Rch E f k := r.mono fun i hi hs => .base i (H.base i hi hs) hi
  exact (h1.closed fun i k hi h2 h3 h4 => by
    rcases H.clos i hi h2 with h5 | h5
    · cases h5
    · exact h5 k h3 h4).1
end Go.Proofs.Yteejlibiidiibaa
