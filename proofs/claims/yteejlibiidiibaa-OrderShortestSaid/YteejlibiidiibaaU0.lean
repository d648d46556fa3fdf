/-
  Plain: the order of the components: there is one.
-/
import Derived.Test.YteejlibiidiibaaT3
namespace Go.Proofs.Yteejlibiidiibaa
def Mut (E : Gr) (i j : Nat) : Prop := Pth E i j ∧ Pth E j i
noncomputable def mutB (E : Gr) (i j : Nat) : Bool := @decide (Mut E i j) (Classical.propDecidable _)
theorem mutB_iff {E : Gr} {i j : Nat} : mutB E i j = true ↔ Mut E i j := by unfold mutB; exact @decide_eq_true_iff _ (Classical.propDecidable _)
theorem Pth.lt {E : Gr} {i j : Nat} (h : Pth E i j) : i < E.length ∧ j < E.length := by
  refine ⟨?_, Rch.lt h⟩
  have : ∀ {k}, Rch E (fun k => k == i) k → i < E.length := fun {k} hk => by
    induction hk with
    | base m hm hl => have : m = i := by simpa using hm
                      subst this; exact hl
    | step a b _ _ _ ih => exact ih
  exact this h
theorem Mut.refl {E : Gr} {i : Nat} (h : i < E.length) : Mut E i i := ⟨.refl h, .refl h⟩
theorem Mut.symm {E : Gr} {i j : Nat} (h : Mut E i j) : Mut E j i := ⟨h.2, h.1⟩
theorem Mut.trans {E : Gr} {i j k : Nat} (h : Mut E i j) (g : Mut E j k) : Mut E i k := ⟨h.1.trans g.1, g.2.trans h.2⟩
/-- The component of a node. -/
noncomputable def cls (E : Gr) (i : Nat) : List Int := marked E.length (mutB E i)
theorem mem_marked {n : Nat} {f : Nat → Bool} {x : Int} : x ∈ marked n f ↔ ∃ k : Nat, k < n ∧ f k = true ∧ x = (k : Int) := by
  unfold marked
  rw [List.mem_map]
  constructor
  · rintro ⟨k, hk, rfl⟩
    rw [List.mem_filter, List.mem_range] at hk
    exact ⟨k, hk.1, hk.2, rfl⟩
  · rintro ⟨k, h1, h2, rfl⟩
    exact ⟨k, by rw [List.mem_filter, List.mem_range]; exact ⟨h1, h2⟩, rfl⟩
theorem marked_asc (n : Nat) (f : Nat → Bool) : (marked n f).Pairwise (· < ·) := by
  unfold marked
  rw [List.pairwise_map]
  refine ((List.pairwise_lt_range (n := n)).filter f).imp fun {a b} h => ?_
  omega
theorem mem_cls {E : Gr} {i : Nat} {x : Int} : x ∈ cls E i ↔ ∃ k : Nat, x = (k : Int) ∧ Mut E i k := by
  unfold cls
  rw [mem_marked]
  constructor
  · rintro ⟨k, _, h, rfl⟩; exact ⟨k, rfl, mutB_iff.1 h⟩
  · rintro ⟨k, rfl, h⟩; exact ⟨k, h.1.lt.2, mutB_iff.2 h, rfl⟩
theorem cls_congr {E : Gr} {i j : Nat} (h : Mut E i j) : cls E i = cls E j := by
  unfold cls
  refine marked_congr fun k _ => ?_
  rw [Bool.eq_iff_iff, mutB_iff, mutB_iff]
  exact ⟨fun g => h.symm.trans g, fun g => h.trans g⟩
/-- Two ascending lists with the same members. -/
theorem asc_ext : ∀ {a b : List Int}, a.Pairwise (· < ·) → b.Pairwise (· < ·) → (∀ x, x ∈ a ↔ x ∈ b) → a = b
  | [], [], _, _, _ => rfl
  | [], y :: b, _, _, h => by have := (h y).2 (by simp); cases this
  | x :: a, [], _, _, h => by have := (h x).1 (by simp); cases this
  | x :: a, y :: b, ha, hb, h => by
    rw [List.pairwise_cons] at ha hb
    have hxy : x = y := by
      have h1 := (h x).1 (by simp)
      have h2 := (h y).2 (by simp)
      rcases List.mem_cons.1 h1 with e | e
      · exact e
      · rcases List.mem_cons.1 h2 with e2 | e2
        · exact e2.symm
        · have := hb.1 x e; have := ha.1 y e2; omega
    subst hxy
    rw [asc_ext ha.2 hb.2 fun z => ?_]
    have hz := h z
    simp only [List.mem_cons] at hz
    constructor
    · intro hm
      rcases hz.1 (.inr hm) with e | e
      · subst e; have := ha.1 z hm; omega
      · exact e
    · intro hm
      rcases hz.2 (.inr hm) with e | e
      · subst e; have := hb.1 z hm; omega
      · exact e
def inn (l : List (List Int)) (i : Nat) : Prop := ∃ C, C ∈ l ∧ (i : Int) ∈ C
/-- All that i depends on is done, but for its own component. -/
def Rdy (E : Gr) (D : Nat → Prop) (i : Nat) : Prop := ∀ k, Pth E i k → D k ∨ Pth E k i
def TopoAt (E : Gr) (pre : List (List Int)) (C : List Int) : Prop :=
  ∃ i, i < E.length ∧ C = cls E i ∧ ¬ inn pre i ∧ Rdy E (inn pre) i ∧ ∀ j, j < i → ¬ inn pre j → ¬ Rdy E (inn pre) j
def Topo (E : Gr) (out : List (List Int)) : Prop := ∀ t C, out[t]? = some C → TopoAt E (out.take t) C
theorem TopoAt.one {E : Gr} {pre : List (List Int)} {C C' : List Int} (h : TopoAt E pre C) (h' : TopoAt E pre C') : C = C' := by
  obtain ⟨i, _, rfl, h1, h2, h3⟩ := h
  obtain ⟨j, _, rfl, g1, g2, g3⟩ := h'
  have : i = j := by
    rcases Nat.lt_trichotomy i j with h | h | h
    · exact absurd h2 (g3 i h h1)
    · exact h
    · exact absurd g2 (h3 j h g1)
  rw [this]
theorem Topo.nil (E : Gr) : Topo E [] := fun t C h => by simp at h
theorem Topo.snoc {E : Gr} {out : List (List Int)} {C : List Int} (h : Topo E out) (hC : TopoAt E out C) : Topo E (out ++ [C]) := by
  intro t C' ht
  rcases Nat.lt_or_ge t out.length with hl | hl
  · rw [List.getElem?_append_left hl] at ht
    rw [List.take_append_of_le_length (by omega)]
    exact h t C' ht
  · have hl2 : t < (out ++ [C]).length := by
      rcases Nat.lt_or_ge t (out ++ [C]).length with h5 | h5
      · exact h5
      · rw [List.getElem?_eq_none h5] at ht; cases ht
    simp at hl2
    obtain rfl : t = out.length := by omega
    have : C' = C := by simpa using ht.symm
    subst this
    rw [List.take_left']
    · exact hC
    · rfl
theorem Topo.agree {E : Gr} {a b : List (List Int)} (ha : Topo E a) (hb : Topo E b) : ∀ t, t ≤ a.length → t ≤ b.length → a.take t = b.take t := by
  intro t
  induction t with
  | zero => intro _ _; simp
  | succ t ih =>
    intro h1 h2
    have h := ih (by omega) (by omega)
    rw [List.take_succ_eq_append_getElem (by omega), List.take_succ_eq_append_getElem (by omega), h]
    have g1 := ha t _ (List.getElem?_eq_getElem (by omega))
    have g2 := hb t _ (List.getElem?_eq_getElem (by omega))
    rw [h] at g1
    rw [g1.one g2]
theorem Topo.unique {E : Gr} {a b : List (List Int)} (ha : Topo E a) (hb : Topo E b) (ca : ∀ i, i < E.length → inn a i) (cb : ∀ i, i < E.length → inn b i) : a = b := by
  have key : ∀ {a b : List (List Int)}, Topo E a → Topo E b → (∀ i, i < E.length → inn a i) → b.length ≤ a.length := fun {a b} ha hb ca => by
    rcases Nat.lt_or_ge a.length b.length with h | h
    · have h1 := ha.agree hb a.length (Nat.le_refl _) (by omega)
      rw [List.take_length] at h1
      obtain ⟨i, hi, _, g1, _⟩ := hb a.length _ (List.getElem?_eq_getElem h)
      rw [← h1] at g1
      exact absurd (ca i hi) g1
    · exact h
  have h1 := key ha hb ca
  have h2 := key hb ha cb
  have h3 := ha.agree hb a.length (Nat.le_refl _) (by omega)
  rw [List.take_length] at h3
  rw [h3, List.take_of_length_le (by omega)]
/-- While something is not done, something that is not done is ready. -/
theorem Rdy.some {E : Gr} {D : Nat → Prop} {i : Nat} (hi : i < E.length) (hD : ¬ D i) : ∃ j, j < E.length ∧ ¬ D j ∧ Rdy E D j := by
  suffices h : ∀ m, ∀ i, cnt E.length (rb E fun k => k == i) ≤ m → i < E.length → ¬ D i → ∃ j, j < E.length ∧ ¬ D j ∧ Rdy E D j from h _ i (Nat.le_refl _) hi hD
  intro m
  induction m with
  | zero =>
    intro i hc hi _
    have : cnt E.length (fun _ => false) < cnt E.length (rb E fun k => k == i) := cnt_lt (fun _ _ h => by cases h) ⟨i, hi, rfl, rb_iff.2 (Pth.refl hi)⟩
    omega
  | succ m ih =>
    intro i hc hi hD
    by_cases hr : Rdy E D i
    · exact ⟨i, hi, hD, hr⟩
    · obtain ⟨k, hk⟩ := Classical.not_forall.1 hr
      have h1 : Pth E i k := Classical.byContradiction fun h => hk fun h' => absurd h' h
      have h2 : ¬ D k := fun h => hk fun _ => .inl h
      have h3 : ¬ Pth E k i := fun h => hk fun _ => .inr h
      refine ih k ?_ h1.lt.2 h2
      have : cnt E.length (rb E fun q => q == k) < cnt E.length (rb E fun q => q == i) := by
        refine cnt_lt (fun q hq h => ?_) ⟨i, hi, ?_, rb_iff.2 (Pth.refl hi)⟩
        · exact rb_iff.2 (h1.trans (rb_iff.1 h))
        · cases hb : rb E (fun q => q == k) i
          · rfl
          · exact absurd (rb_iff.1 hb) h3
      omega
/-- The least one that is ready. -/
theorem Rdy.least {E : Gr} {D : Nat → Prop} {i : Nat} (hi : i < E.length) (hD : ¬ D i) : ∃ j, j < E.length ∧ ¬ D j ∧ Rdy E D j ∧ ∀ k, k < j → ¬ D k → ¬ Rdy E D k := by
  obtain ⟨j, h1, h2, h3⟩ := Rdy.some hi hD
  suffices h : ∀ m j, j ≤ m → j < E.length → ¬ D j → Rdy E D j → ∃ j, j < E.length ∧ ¬ D j ∧ Rdy E D j ∧ ∀ k, k < j → ¬ D k → ¬ Rdy E D k from h _ j (Nat.le_refl _) h1 h2 h3
  intro m
  induction m with
  | zero => intro j hj h1 h2 h3; exact ⟨j, h1, h2, h3, fun k hk => by omega⟩
  | succ m ih =>
    intro j hj h1 h2 h3
    by_cases h : ∃ k, k < j ∧ ¬ D k ∧ Rdy E D k
    · obtain ⟨k, g1, g2, g3⟩ := h
      exact ih k (by omega) (by omega) g2 g3
    · exact ⟨j, h1, h2, h3, fun k hk g1 g2 => h ⟨k, hk, g1, g2⟩⟩
end Go.Proofs.Yteejlibiidiibaa
