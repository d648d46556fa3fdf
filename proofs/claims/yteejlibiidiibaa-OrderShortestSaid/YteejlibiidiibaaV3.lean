/-
  Plain: shortest ways, the next node on a cycle, the cycle.
  Walks: the reference's away.
  Walks: the reference's next.
  Walks: the reference's Cycle.
-/
import Derived.Test.YteejlibiidiibaaU1
namespace Go.Proofs.Yteejlibiidiibaa
/-- There is a way of at most d edges from i tg k. -/
def Wn (E : Gr) : Nat → Nat → Nat → Prop
  | 0, i, k => i = k ∧ i < E.length
  | d + 1, i, k => Wn E d i k ∨ ∃ j, Wn E d i j ∧ (k : Int) ∈ E.getD j [] ∧ k < E.length
theorem Wn.up {E : Gr} {d i k : Nat} (h : Wn E d i k) : Wn E (d + 1) i k := .inl h
theorem Wn.mono {E : Gr} {d m i k : Nat} (h : Wn E d i k) (hm : d ≤ m) : Wn E m i k := by
  induction m with
  | zero => have : d = 0 := by omega
            subst this; exact h
  | succ m ih =>
    by_cases e : d = m + 1
    · subst e; exact h
    · exact (ih (by omega)).up
theorem Wn.pth {E : Gr} : ∀ {d i k : Nat}, Wn E d i k → Pth E i k
  | 0, i, k, h => by obtain ⟨rfl, h⟩ := h; exact .refl h
  | d + 1, i, k, .inl h => Wn.pth h
  | d + 1, i, k, .inr ⟨j, h, h1, h2⟩ => (Wn.pth h).step h1 h2
theorem Wn.lt {E : Gr} {d i k : Nat} (h : Wn E d i k) : i < E.length ∧ k < E.length := h.pth.lt
theorem Pth.wn {E : Gr} {i k : Nat} (h : Pth E i k) : ∃ d, Wn E d i k :=
  (h.closed (P := fun k => ∃ d, Wn E d i k) (fun hi => ⟨0, rfl, hi⟩) fun a b _ ⟨d, h1⟩ h2 h3 => ⟨d + 1, .inr ⟨a, h1, h2, h3⟩⟩)
/-- The first edge. -/
theorem Wn.left {E : Gr} : ∀ {d i k : Nat}, Wn E (d + 1) i k → (i = k ∧ i < E.length) ∨ ∃ j : Nat, (j : Int) ∈ E.getD i [] ∧ j < E.length ∧ Wn E d j k
  | 0, i, k, .inl h => .inl h
  | 0, i, k, .inr ⟨j, ⟨h, h0⟩, h1, h2⟩ => by subst h; exact .inr ⟨k, h1, h2, rfl, h2⟩
  | d + 1, i, k, .inl h => by
    rcases Wn.left h with h | ⟨j, h1, h2, h3⟩
    · exact .inl h
    · exact .inr ⟨j, h1, h2, h3.up⟩
  | d + 1, i, k, .inr ⟨m, h, h1, h2⟩ => by
    rcases Wn.left h with ⟨rfl, _⟩ | ⟨j, g1, g2, g3⟩
    · exact .inr ⟨k, h1, h2, (show Wn E 0 k k from ⟨rfl, h2⟩).mono (Nat.zero_le _)⟩
    · exact .inr ⟨j, g1, g2, .inr ⟨m, g3, h1, h2⟩⟩
theorem Wn.cons {E : Gr} {i j : Nat} (hi : i < E.length) (hj : (j : Int) ∈ E.getD i []) : ∀ {d k : Nat}, Wn E d j k → Wn E (d + 1) i k
  | 0, k, h => by obtain ⟨rfl, h⟩ := h; exact .inr ⟨i, ⟨rfl, hi⟩, hj, h⟩
  | d + 1, k, .inl h => (Wn.cons hi hj h).up
  | d + 1, k, .inr ⟨m, h, h1, h2⟩ => .inr ⟨m, Wn.cons hi hj h, h1, h2⟩
noncomputable def wnB (E : Gr) (i d k : Nat) : Bool := @decide (Wn E d i k) (Classical.propDecidable _)
theorem wnB_iff {E : Gr} {i d k : Nat} : wnB E i d k = true ↔ Wn E d i k := by unfold wnB; exact @decide_eq_true_iff _ (Classical.propDecidable _)
/-- A shortest way has fewer edges than there are nodes. -/
theorem Wn.short {E : Gr} {m i k : Nat} (h : Wn E m i k) (hm : ∀ d, d < m → ¬ Wn E d i k) : m < E.length := by
  have grow : ∀ d, d ≤ m → d + 1 ≤ cnt E.length (wnB E i d) := by
    intro d
    induction d with
    | zero =>
      intro _
      have := cnt_lt (n := E.length) (S := fun _ => false) (P := wnB E i 0) (fun _ _ h => by cases h) ⟨i, h.lt.1, rfl, wnB_iff.2 ⟨rfl, h.lt.1⟩⟩
      omega
    | succ d ih =>
      intro hd
      have h1 := ih (by omega)
      have hs : Sub E.length (wnB E i d) (wnB E i (d + 1)) := fun q _ hq => wnB_iff.2 (wnB_iff.1 hq).up
      by_cases hx : ∃ q, q < E.length ∧ wnB E i d q = false ∧ wnB E i (d + 1) q = true
      · have := cnt_lt hs hx; omega
      · exfalso
        have stop : ∀ q, Wn E (d + 1) i q → Wn E d i q := fun q hq => by
          cases hb : wnB E i d q
          · exact absurd ⟨q, hq.lt.2, hb, wnB_iff.2 hq⟩ hx
          · exact wnB_iff.1 hb
        have all : ∀ e q, Wn E (d + e) i q → Wn E d i q := by
          intro e
          induction e with
          | zero => intro q h; exact h
          | succ e ihe =>
            rintro q (h2 | ⟨j, h2, h3, h4⟩)
            · exact ihe q h2
            · exact stop q (.inr ⟨j, ihe j h2, h3, h4⟩)
        exact hm d (by omega) (all (m - d) k (by rw [show d + (m - d) = m by omega]; exact h))
  have := grow m (Nat.le_refl _)
  have := cnt_le E.length (wnB E i m)
  omega
theorem Wn.least {E : Gr} : ∀ {m i k : Nat}, Wn E m i k → ∃ d, d ≤ m ∧ Wn E d i k ∧ ∀ e, e < d → ¬ Wn E e i k
  | 0, i, k, h => ⟨0, Nat.le_refl _, h, fun e he => by omega⟩
  | m + 1, i, k, h => by
    by_cases h1 : Wn E m i k
    · obtain ⟨d, h2, h3⟩ := Wn.least h1
      exact ⟨d, by omega, h3⟩
    · exact ⟨m + 1, Nat.le_refl _, h, fun e he h2 => h1 (h2.mono (by omega))⟩
/-- x is the number of edges of a shortest way from i, or -1. -/
def IsSd (E : Gr) (tg i : Nat) (x : Int) : Prop := (x = -1 ∧ ∀ m, ¬ Wn E m i tg) ∨ ∃ m : Nat, x = (m : Int) ∧ Wn E m i tg ∧ ∀ e, e < m → ¬ Wn E e i tg
theorem IsSd.one {E : Gr} {tg i : Nat} {x y : Int} (h : IsSd E tg i x) (g : IsSd E tg i y) : x = y := by
  rcases h with ⟨rfl, h1⟩ | ⟨m, rfl, h1, h2⟩ <;> rcases g with ⟨rfl, g1⟩ | ⟨q, rfl, g1, g2⟩
  · rfl
  · exact absurd g1 (h1 _)
  · exact absurd h1 (g1 _)
  · have : m = q := by
      rcases Nat.lt_trichotomy m q with h | h | h
      · exact absurd h1 (g2 _ h)
      · exact h
      · exact absurd g1 (h2 _ h)
    rw [this]
theorem IsSd.some (E : Gr) (tg i : Nat) : ∃ x, IsSd E tg i x := by
  by_cases h : ∃ m, Wn E m i tg
  · obtain ⟨m, h⟩ := h
    obtain ⟨d, _, h1, h2⟩ := h.least
    exact ⟨d, .inr ⟨d, rfl, h1, h2⟩⟩
  · exact ⟨-1, .inl ⟨rfl, fun m hm => h ⟨m, hm⟩⟩⟩
noncomputable def sd (E : Gr) (tg i : Nat) : Int := Classical.choose (IsSd.some E tg i)
theorem sd_is (E : Gr) (tg i : Nat) : IsSd E tg i (sd E tg i) := Classical.choose_spec (IsSd.some E tg i)
theorem sd_bd (E : Gr) (tg i : Nat) : sd E tg i = -1 ∨ (0 ≤ sd E tg i ∧ sd E tg i < (E.length : Int)) := by
  rcases sd_is E tg i with ⟨h, _⟩ | ⟨m, h, h1, h2⟩
  · exact .inl h
  · have := h1.short h2; exact .inr (by omega)
theorem sd_ge {E : Gr} {tg i : Nat} : 0 ≤ sd E tg i ↔ Pth E i tg := by
  rcases sd_is E tg i with ⟨h, h1⟩ | ⟨m, h, h1, h2⟩
  · constructor
    · intro h; omega
    · intro hp; obtain ⟨m, hm⟩ := hp.wn; exact absurd hm (h1 m)
  · constructor
    · intro _; exact h1.pth
    · intro _; omega
theorem sd_le {E : Gr} {tg i m : Nat} (h : Wn E m i tg) : 0 ≤ sd E tg i ∧ sd E tg i ≤ (m : Int) := by
  rcases sd_is E tg i with ⟨h0, h1⟩ | ⟨q, h0, h1, h2⟩
  · exact absurd h (h1 m)
  · refine ⟨by omega, ?_⟩
    rcases Nat.lt_or_ge m q with hq | hq
    · exact absurd h (h2 m hq)
    · omega
theorem sd_zero {E : Gr} {tg i : Nat} (h : sd E tg i = 0) : i = tg := by
  rcases sd_is E tg i with ⟨h0, h1⟩ | ⟨q, h0, h1, h2⟩
  · omega
  · have : q = 0 := by omega
    subst this; exact h1.1
/-- One way nearer. -/
theorem sd_step {E : Gr} {tg i : Nat} (h : 0 ≤ sd E tg i) (hne : i ≠ tg) : ∃ j : Nat, (j : Int) ∈ E.getD i [] ∧ j < E.length ∧ 0 ≤ sd E tg j ∧ sd E tg j < sd E tg i := by
  rcases sd_is E tg i with ⟨h0, h1⟩ | ⟨q, h0, h1, h2⟩
  · omega
  · cases q with
    | zero => exact absurd h1.1 hne
    | succ q =>
      rcases h1.left with ⟨e, _⟩ | ⟨j, g1, g2, g3⟩
      · exact absurd e hne
      · have := sd_le g3
        exact ⟨j, g1, g2, this.1, by omega⟩
/-- Is x better than the best one so far? -/
noncomputable def betB (E : Gr) (tg : Nat) (b x : Int) : Bool :=
  nodeB E.length x && (decide (0 ≤ sd E tg x.toNat) && (decide (b < 0) || (decide (sd E tg x.toNat < sd E tg b.toNat) || (decide (sd E tg x.toNat = sd E tg b.toNat) && decide (x < b)))))
noncomputable def stepP (E : Gr) (tg : Nat) (b x : Int) : Int := if betB E tg b x then x else b
noncomputable def pick (E : Gr) (tg : Nat) (l : List Int) : Int := l.foldl (stepP E tg) (-1)
theorem pick_take {E : Gr} {tg : Nat} {l : List Int} {k : Nat} (h : k < l.length) : pick E tg (l.take (k + 1)) = stepP E tg (pick E tg (l.take k)) l[k] := by
  unfold pick
  rw [List.take_succ_eq_append_getElem h, List.foldl_append]; rfl
/-- What is chosen out of l. -/
def PkR (E : Gr) (tg : Nat) (l : List Int) (b : Int) : Prop :=
  (b = -1 ∧ ∀ x, x ∈ l → nodeB E.length x = true → sd E tg x.toNat < 0) ∨
  (b ∈ l ∧ nodeB E.length b = true ∧ 0 ≤ sd E tg b.toNat ∧ ∀ x, x ∈ l → nodeB E.length x = true → 0 ≤ sd E tg x.toNat → sd E tg b.toNat ≤ sd E tg x.toNat)
theorem PkR.snoc {E : Gr} {tg : Nat} {l : List Int} {b x : Int} (h : PkR E tg l b) : PkR E tg (l ++ [x]) (stepP E tg b x) := by
  unfold stepP
  cases hb : betB E tg b x with
  | true =>
    unfold betB at hb
    simp only [Bool.and_eq_true, Bool.or_eq_true, decide_eq_true_iff] at hb
    obtain ⟨h1, h2, h3⟩ := hb
    rw [if_pos rfl]
    refine .inr ⟨by simp, h1, h2, fun y hy hn hd => ?_⟩
    rcases List.mem_append.1 hy with hy | hy
    · rcases h with ⟨rfl, h4⟩ | ⟨h4, h5, h6, h7⟩
      · have := h4 y hy hn; omega
      · have := h7 y hy hn hd
        have hb0 := (nodeB_iff.1 h5).1
        rcases h3 with h3 | h3 | h3 <;> omega
    · rw [List.mem_singleton] at hy; subst hy; exact Int.le_refl _
  | false =>
    rw [if_neg (by simp)]
    have hno : nodeB E.length x = true → 0 ≤ sd E tg x.toNat → ¬ (b < 0) ∧ ¬ (sd E tg x.toNat < sd E tg b.toNat) := fun h1 h2 => by
      unfold betB at hb
      rw [h1] at hb
      simp only [decide_eq_true h2, Bool.true_and, Bool.or_eq_false_iff, decide_eq_false_iff_not] at hb
      exact ⟨hb.1, hb.2.1⟩
    rcases h with ⟨rfl, h4⟩ | ⟨h4, h5, h6, h7⟩
    · refine .inl ⟨rfl, fun y hy hn => ?_⟩
      rcases List.mem_append.1 hy with hy | hy
      · exact h4 y hy hn
      · rw [List.mem_singleton] at hy; subst hy
        rcases Int.lt_or_le (sd E tg y.toNat) 0 with h | h
        · exact h
        · exact absurd (by omega) (hno hn h).1
    · refine .inr ⟨by simp [h4], h5, h6, fun y hy hn hd => ?_⟩
      rcases List.mem_append.1 hy with hy | hy
      · exact h7 y hy hn hd
      · rw [List.mem_singleton] at hy; subst hy
        have := (hno hn hd).2; omega
theorem pick_is (E : Gr) (tg : Nat) (l : List Int) : PkR E tg l (pick E tg l) := by
  have h : ∀ k, k ≤ l.length → PkR E tg (l.take k) (pick E tg (l.take k)) := by
    intro k
    induction k with
    | zero => intro _; exact .inl ⟨rfl, fun x hx => by simp at hx⟩
    | succ k ih =>
      intro hk
      rw [pick_take (by omega), List.take_succ_eq_append_getElem (by omega)]
      exact (ih (by omega)).snoc
  have := h l.length (Nat.le_refl _)
  rwa [List.take_length] at this
/-- The node behind i on the cycle. -/
noncomputable def nx (E : Gr) (tg i : Nat) : Int := pick E tg (E.getD i [])
theorem nx_cases (E : Gr) (tg i : Nat) : nx E tg i = -1 ∨ ∃ j : Nat, nx E tg i = (j : Int) ∧ j < E.length ∧ (j : Int) ∈ E.getD i [] ∧ 0 ≤ sd E tg j := by
  rcases pick_is E tg (E.getD i []) with ⟨h, _⟩ | ⟨h1, h2, h3, _⟩
  · exact .inl h
  · right
    obtain ⟨g1, g2⟩ := nodeB_iff.1 h2
    refine ⟨(nx E tg i).toNat, by unfold nx; omega, by unfold nx; omega, ?_, h3⟩
    have : (((nx E tg i).toNat : Nat) : Int) = nx E tg i := by unfold nx; omega
    rw [this]; exact h1
theorem nx_some {E : Gr} {tg i j : Nat} (hj : (j : Int) ∈ E.getD i []) (hl : j < E.length) (hs : 0 ≤ sd E tg j) : ∃ q : Nat, nx E tg i = (q : Int) ∧ q < E.length ∧ (q : Int) ∈ E.getD i [] ∧ 0 ≤ sd E tg q ∧ sd E tg q ≤ sd E tg j := by
  rcases pick_is E tg (E.getD i []) with ⟨h, h1⟩ | ⟨h1, h2, h3, h4⟩
  · have := h1 _ hj (by rw [nodeB_nat]; simpa using hl)
    rw [Int.toNat_natCast] at this; omega
  · have h5 := h4 _ hj (by rw [nodeB_nat]; simpa using hl) (by rw [Int.toNat_natCast]; exact hs)
    rw [Int.toNat_natCast] at h5
    obtain ⟨g1, g2⟩ := nodeB_iff.1 h2
    have e : (((nx E tg i).toNat : Nat) : Int) = nx E tg i := by unfold nx; omega
    exact ⟨(nx E tg i).toNat, e.symm, by unfold nx; omega, by rw [e]; exact h1, h3, h5⟩
theorem nx_near {E : Gr} {tg i : Nat} (h : 0 ≤ sd E tg i) (hne : i ≠ tg) : ∃ q : Nat, nx E tg i = (q : Int) ∧ q < E.length ∧ (q : Int) ∈ E.getD i [] ∧ 0 ≤ sd E tg q ∧ sd E tg q < sd E tg i := by
  obtain ⟨j, h1, h2, h3, h4⟩ := sd_step h hne
  obtain ⟨q, g1, g2, g3, g4, g5⟩ := nx_some h1 h2 h3
  exact ⟨q, g1, g2, g3, g4, by omega⟩
theorem nx_cyc {E : Gr} {i : Nat} : 0 ≤ nx E i i ↔ ∃ k : Nat, (k : Int) ∈ E.getD i [] ∧ k < E.length ∧ Pth E k i := by
  constructor
  · intro h
    rcases nx_cases E i i with e | ⟨j, h1, h2, h3, h4⟩
    · omega
    · exact ⟨j, h3, h2, sd_ge.1 h4⟩
  · rintro ⟨k, h1, h2, h3⟩
    obtain ⟨q, h4, _⟩ := nx_some h1 h2 (sd_ge.2 h3)
    omega
/-- The nodes of the cycle, one after another. -/
noncomputable def it (E : Gr) (tg : Nat) : Nat → Nat
  | 0 => tg
  | t + 1 => (nx E tg (it E tg t)).toNat
noncomputable def itL (E : Gr) (tg L : Nat) : List Int := (List.range L).map fun t => ((it E tg t : Nat) : Int)
theorem itL_succ (E : Gr) (tg L : Nat) : itL E tg (L + 1) = itL E tg L ++ [((it E tg L : Nat) : Int)] := by
  unfold itL; rw [List.range_succ, List.map_append]; rfl
theorem itL_len (E : Gr) (tg L : Nat) : (itL E tg L).length = L := by simp [itL]
/-- The cycle that is asked for. -/
def CyR (E : Gr) (xs : List Int) : Prop :=
  (xs = [] ∧ ∀ i, i < E.length → nx E i i < 0) ∨
  ∃ tg L, tg < E.length ∧ 0 ≤ nx E tg tg ∧ (∀ i, i < tg → nx E i i < 0) ∧ 0 < L ∧ it E tg L = tg ∧ (∀ t, 0 < t → t < L → it E tg t ≠ tg) ∧ xs = itL E tg L
theorem CyR.one {E : Gr} {xs ys : List Int} (h : CyR E xs) (g : CyR E ys) : xs = ys := by
  rcases h with ⟨rfl, h1⟩ | ⟨tg, L, h1, h2, h3, h4, h5, h6, rfl⟩ <;> rcases g with ⟨rfl, g1⟩ | ⟨tg', L', g1, g2, g3, g4, g5, g6, rfl⟩
  · rfl
  · have := h1 _ g1; omega
  · have := g1 _ h1; omega
  · have e : tg = tg' := by
      rcases Nat.lt_trichotomy tg tg' with h | h | h
      · have := g3 _ h; omega
      · exact h
      · have := h3 _ h; omega
    subst e
    have : L = L' := by
      rcases Nat.lt_trichotomy L L' with h | h | h
      · exact absurd h5 (g6 _ h4 h)
      · exact h
      · exact absurd g5 (h6 _ g4 h)
    rw [this]
end Go.Proofs.Yteejlibiidiibaa

namespace Go.Proofs.Yteejlibiidiibaa
open Go.RowKit
set_option maxRecDepth 100000
def stepS (n : Nat) (b : Bool) (g : Nat → Bool) (x : Int) : Nat → Bool := if b && nodeB n x then setM g x.toNat else g
def rowS (n : Nat) (b : Bool) (g : Nat → Bool) (l : List Int) : Nat → Bool := l.foldl (stepS n b) g
def preS (E : Gr) (f : Nat → Bool) (k : Nat) : Nat → Bool := (List.range k).foldl (fun g i => rowS E.length (f i) g (E.getD i [])) f
def iterS (E : Gr) (f : Nat → Bool) : Nat → Nat → Bool
  | 0 => f
  | r + 1 => preS E (iterS E f r) E.length
theorem preS_succ (E : Gr) (f : Nat → Bool) (k : Nat) : preS E f (k + 1) = rowS E.length (f k) (preS E f k) (E.getD k []) := by
  unfold preS; rw [List.range_succ, List.foldl_append]; rfl
theorem rowS_take {n : Nat} {b : Bool} {f : Nat → Bool} {l : List Int} {k : Nat} (h : k < l.length) : rowS n b f (l.take (k + 1)) = stepS n b (rowS n b f (l.take k)) l[k] := by
  unfold rowS
  rw [List.take_succ_eq_append_getElem h, List.foldl_append]; rfl
theorem rowS_iff {n : Nat} {b : Bool} : ∀ {l : List Int} {g : Nat → Bool} {m : Nat}, m < n → (rowS n b g l m = true ↔ g m = true ∨ (b = true ∧ (m : Int) ∈ l))
  | [], g, m, _ => by simp [rowS]
  | x :: l, g, m, hm => by
    show rowS n b (stepS n b g x) l m = true ↔ _
    rw [rowS_iff hm, List.mem_cons]
    unfold stepS
    split
    · rename_i hc
      rw [Bool.and_eq_true] at hc
      obtain ⟨h1, h2⟩ := nodeB_iff.1 hc.2
      unfold setM
      by_cases e : m = x.toNat
      · have : (m : Int) = x := by omega
        rw [if_pos e]; simp [this, hc.1]
      · have : ¬ (m : Int) = x := by omega
        simp [e, this]
    · rename_i hc
      constructor
      · rintro (h | ⟨h1, h2⟩)
        · exact .inl h
        · exact .inr ⟨h1, .inr h2⟩
      · rintro (h | ⟨h1, h2 | h2⟩)
        · exact .inl h
        · exfalso
          apply hc
          rw [h1, ← h2, nodeB_nat]; simpa using hm
        · exact .inr ⟨h1, h2⟩
theorem preS_iff {E : Gr} {f : Nat → Bool} {m : Nat} (hm : m < E.length) : ∀ {k : Nat}, preS E f k m = true ↔ f m = true ∨ ∃ a, a < k ∧ f a = true ∧ (m : Int) ∈ E.getD a []
  | 0 => by simp [preS]
  | k + 1 => by
    rw [preS_succ, rowS_iff hm, preS_iff hm]
    constructor
    · rintro ((h | ⟨a, h1, h2⟩) | ⟨h1, h2⟩)
      · exact .inl h
      · exact .inr ⟨a, by omega, h2⟩
      · exact .inr ⟨k, by omega, h1, h2⟩
    · rintro (h | ⟨a, h1, h2, h3⟩)
      · exact .inl (.inl h)
      · by_cases e : a = k
        · subst e; exact .inr ⟨h2, h3⟩
        · exact .inl (.inr ⟨a, by omega, h2, h3⟩)
theorem iterS_iff {E : Gr} {i : Nat} (hi : i < E.length) : ∀ {d k : Nat}, k < E.length → (iterS E (fun m => m == i) d k = true ↔ Wn E d i k)
  | 0, k, hk => by
    show (k == i) = true ↔ _
    rw [beq_iff_eq]
    exact ⟨fun e => ⟨e.symm, hi⟩, fun h => h.1.symm⟩
  | d + 1, k, hk => by
    show preS E (iterS E (fun m => m == i) d) E.length k = true ↔ _
    rw [preS_iff hk, iterS_iff hi hk]
    constructor
    · rintro (h | ⟨a, h1, h2, h3⟩)
      · exact .inl h
      · exact .inr ⟨a, (iterS_iff hi h1).1 h2, h3, hk⟩
    · rintro (h | ⟨a, h1, h2, h3⟩)
      · exact .inl h
      · exact .inr ⟨a, h1.lt.2, (iterS_iff hi h1.lt.2).2 h1, h2⟩
theorem preS_at {E : Gr} {n k : Nat} {f : Nat → Bool} (hn : n = E.length) (hk : k < E.length) : preS E f (k + 1) = rowS n (f k) (preS E f k) E[k] := by
  subst hn
  rw [preS_succ, getD_at hk]
theorem stepS_yes {n : Nat} {g : Nat → Bool} {x : Int} (hx : nodeB n x = true) : stepS n true g x = setM g x.toNat := by unfold stepS; rw [hx]; rfl
theorem stepS_no1 {n : Nat} {g : Nat → Bool} {x : Int} : stepS n false g x = g := by unfold stepS; rfl
theorem stepS_no2 {n : Nat} {b : Bool} {g : Nat → Bool} {x : Int} (h : nodeB n x = false) : stepS n b g x = g := by unfold stepS; rw [h]; simp
/-- 'append([]bool(nil), s...)'. -/
theorem wpList_append_copy {ops : Array Oper} {rest : List Oper} {o : Oper} {a : Act} {Q : Exit → Act → World → Prop} (hgd : o.guard = none) (s x : Operand)
    (ho : o.op = .call { callee := .builtin .append, args := #[s, x], argTypes := #[46, 46] })
    (wx : World) (b n c : Nat) (f : Nat → Bool) (hs : a.eval s = .slice none 0 0) (hx : a.eval x = .slice (some ⟨b, 0, none⟩) n c) (hT : BT wx b n f) (h0 : 0 < n) (hn : n ≤ 100000)
    (h : ∀ c' w', BT w' wx.heap.size n f → Below wx.heap.size wx w' → wpList Try.prog ops Q rest (a.put o.dst (.slice (some ⟨wx.heap.size, 0, none⟩) n c')) w') :
    wpList Try.prog ops Q (o :: rest) a wx := by
  obtain ⟨i, hi, hz, hz1, hz2⟩ := info_parts bool_info
  refine wpList_plain hgd fun K hK => ?_
  obtain ⟨tc, t1, t2⟩ := hT.ex
  have hnews : ∀ (j : Nat) (u : Value), ((List.range n).map fun m => Value.bool (f m))[j]? = some u → wx.cell? ((⟨b, 0, none⟩ : Addr).add j) = some u := fun j u hu => by
    rw [add_none, Nat.zero_add]
    have hj : j < n := by
      have := (List.getElem?_eq_some_iff.1 hu).1
      simpa using this
    rw [hT.cell hj]
    simpa [hj] using hu
  have hr := run_append_grow_src (P := Try.prog) wx 46 46 o.type 4 i (.bool false) (by kernel_rfl) hi hz none 0 0 [] (run_firstCells_none _ _ _ _ _) (.slice (some ⟨b, 0, none⟩) n c) n ((List.range n).map fun m => Value.bool (f m))
    (Src.ofSlice (e' := 4) wx (by kernel_rfl) ⟨b, 0, none⟩ n c _ (by rw [hz1]; simp) hnews (fun u hu => by obtain ⟨m, _, rfl⟩ := List.mem_map.1 hu; rfl)) (by omega) (by omega) (growslice_fits (by omega) (by rw [hz2]; omega))
  unfold Oper.wp execOp
  simp only [ho, resolve, invoke, builtin, Sem.run_bind, Sem.run_pure, Result.andThen_ok, List.map_toArray, List.map_cons, List.map_nil, hs, hx, hr]
  rw [Nat.zero_add]
  refine hK _ _ (h _ _ ⟨_, heap_alloc_new wx.drew _, fun m hm => ?_⟩ ((Below.refl _ _).drew.alloc (by simp) _))
  rw [Array.getElem?_append_left (by simpa using hm)]
  simp [hm]
set_option maxHeartbeats 16000000 in
theorem away_any (w : World) (p : Option Addr) (n c : Nat) (E : Gr) (i tg : Nat) (h : GS w p n E) (hs : SmallG E) (hi : i < n) (ht : tg < n) :
    Calls Try.prog 39 #[.slice p n c, .int .i64 i, .int .i64 tg] w fun e w' => e = .returned (.int .i64 (sd E tg i)) ∧ Below w.heap.size w w' := by
  have hn : n ≤ 100000 := by rw [h.len]; exact hs.nodes
  have Hn := Lib.hid h.len
  have H := Lib.hid h; have HS := Lib.hid hs
  have hmk := run_make_bool n hn
  have hb1 := (Below.refl w.heap.size w).alloc (Nat.le_refl _) (.cells (madeCells #[.bool false] n) 4)
  have T1 := Lib.hid (BT.made w n)
  clear h hs
  go_enter Try.func39, Try.ntmps39
  go_upto_region 2 with fail
  generalize w.alloc (.cells (madeCells #[.bool false] n) 4) = w1 at *
  have z1 := T1.out.cell hi
  have z2 := T1.out.free i
  have Hset := Lib.hid (T1.out.setM hi)
  have Hb1 := Lib.hid hb1
  clear hb1
  go_upto_region 4 with fail
  have hf0 : setM (fun _ => false) i = fun m => m == i := by
    funext m
    unfold setM
    by_cases e : m = i <;> simp [e]
  rw [hf0] at Hset
  have Hbs := Lib.hid (Hb1.out.trans (Hset.out.2.below (Nat.le_refl _)))
  generalize w1.setCell ⟨w.heap.size, i, none⟩ (.bool true) = w2 at *
  clear z1 z2 hmk hf0
  go_loopw [8, 7] (fun a s wr => ∃ k b cc : Nat, a = .int .i64 k ∧ s = .slice (some ⟨b, 0, none⟩) n cc ∧ k ≤ n + 1 ∧ w.heap.size ≤ b ∧ BT wr b n (iterS E (fun m => m == i) k) ∧ Below w.heap.size w wr ∧ ∀ j, j < k → ¬ Wn E j i tg) (fun a _ _ => n + 1 - (intOf a).toNat)
  case atStart => exact ⟨0, w.heap.size, n, rfl, rfl, by omega, Nat.le_refl _, Hset.out.1, Hbs.out, fun j hj => by omega⟩
  case round =>
    obtain ⟨k, b, cc, rfl, rfl, hk, hbl, hT, hb, hno⟩ := hrel
    have HT := Lib.hid hT; have Hb := Lib.hid hb; have Hno := Lib.hid hno
    clear hT hb hno
    by_cases hlt : k ≤ n
    · have z1 := HT.out.cell ht
      have Hdec := Lib.hid (iterS_iff (E := E) (i := i) (by rw [← Hn.out]; exact hi) (d := k) (k := tg) (by rw [← Hn.out]; exact ht))
      obtain ⟨wo, rfl⟩ : ∃ wo : World, wo = wr := ⟨_, rfl⟩
      cases hd : iterS E (fun m => m == i) k tg with
      | true =>
        rw [hd] at z1
        have hw : Wn E k i tg := Hdec.out.1 hd
        have hsd : sd E tg i = (k : Int) := (sd_is E tg i).one (.inr ⟨k, rfl, hw, Hno.out⟩)
        have Hsd := Lib.hid hsd
        clear hd hw hsd
        go_wp2
        go_ret
        exact ⟨by rw [Hsd.out]; rfl, Hb.out⟩
      | false =>
        rw [hd] at z1
        have hno2 : ∀ j, j < k + 1 → ¬ Wn E j i tg := fun j hj hw => by
          by_cases e : j = k
          · subst e; rw [Hdec.out.2 hw] at hd; cases hd
          · exact Hno.out j (by omega) hw
        have Hno2 := Lib.hid hno2
        have h0 : 0 < n := by omega
        clear hd hno2
        go_upto_region 9 with (at_builtin; go_loud (refine wpList_append_copy rfl (.const (.slice none 0 0)) (.tmp 31) rfl _ b n cc _ rfl rfl HT.out h0 hn ?_); intro c3 w3 hT3 hb3; have HT3 := Lib.hid hT3; have Hb3 := Lib.hid hb3; clear hT3 hb3)
        have HT3b := Lib.hid (HT.out.below Hb3.out)
        have Hbo := Lib.hid (Hb.out.step Hb3.out)
        have Hbne := Lib.hid (show b ≠ wo.heap.size from Nat.ne_of_lt HT.out.lt)
        have Hwo := Lib.hid Hb.out.size
        go_wp2
        go_loopw [35] (fun a wr => ∃ m : Nat, a = .int .i64 m ∧ m ≤ n ∧ BT wr wo.heap.size n (preS E (iterS E (fun m => m == i) k) m) ∧ Tch wo.heap.size w3 wr) (fun a _ => n - (intOf a).toNat)
        case atStart => exact ⟨0, rfl, by omega, HT3.out, HT3.out.tch⟩
        case round =>
          obtain ⟨m, rfl, hm, ht2, hu2⟩ := hrel
          have Ht2 := Lib.hid ht2; have Hu2 := Lib.hid hu2; clear ht2 hu2
          by_cases hlm : m < n
          · obtain ⟨wm, rfl⟩ : ∃ wm : World, wm = wr := ⟨_, rfl⟩
            obtain ⟨a, o, q, cq, rfl, ha, hq, hcell, hrc⟩ := H.out.row (k := m) (by rw [← Hn.out]; exact hlm)
            have hrow : E[m].length ≤ 100000 := HS.out.row m _
            have c0 := hcell wm (Hbo.out.trans (Hu2.out.below Hwo.out))
            have Hrc := Lib.hid hrc
            have Hps := Lib.hid (show preS E (iterS E (fun m => m == i) k) (m + 1) = rowS n (iterS E (fun m => m == i) k m) (preS E (iterS E (fun m => m == i) k) m) E[m] from preS_at Hn.out _)
            generalize E[m] = L at *
            clear hrc hcell
            go_wp2
            go_loopw [42] (fun j wr => ∃ l : Nat, j = .int .i64 l ∧ l ≤ L.length ∧ BT wr wo.heap.size n (rowS n (iterS E (fun m => m == i) k m) (preS E (iterS E (fun m => m == i) k) m) (L.take l)) ∧ Tch wo.heap.size w3 wr) (fun j _ => L.length - (intOf j).toNat)
            case atStart => exact ⟨0, rfl, by omega, Ht2.out, Hu2.out⟩
            case round =>
              obtain ⟨l, rfl, hl, ht3, hu3⟩ := hrel
              by_cases hll : l < L.length
              · obtain ⟨a2, o2, rfl, ha2, y0⟩ := (Hrc.out wr (Hbo.out.trans (hu3.below Hwo.out))).at hll
                have hTs : BT wr b n (iterS E (fun m => m == i) k) := HT3b.out.at (by obtain ⟨o, hu⟩ := hu3; exact hu.other _ Hbne.out)
                have y1 := hTs.cell hlm
                have Hst := Lib.hid (rowS_take (n := n) (b := iterS E (fun m => m == i) k m) (f := preS E (iterS E (fun m => m == i) k) m) hll)
                generalize hg : rowS n (iterS E (fun m => m == i) k m) (preS E (iterS E (fun m => m == i) k) m) (L.take l) = g at *
                generalize L[l] = x at *
                have Ht3 := Lib.hid ht3; have Hu3 := Lib.hid hu3; clear ht3 hu3 hg hTs
                generalize iterS E (fun m => m == i) k m = bm at *
                cases bm with
                | false =>
                  have hf := stepS_no1 (n := n) (g := g) (x := x)
                  have Hf := Lib.hid hf; clear hf
                  go_wp2
                  exact ⟨⟨l + 1, by go_num, by omega, by rw [Hst.out, Hf.out]; exact Ht3.out, Hu3.out⟩, by simp [intOf]; omega⟩
                | true =>
                  by_cases hx0 : 0 ≤ x
                  · have d0 : decide (0 ≤ x) = true := by simp [hx0]
                    by_cases hxn : x < (n : Int)
                    · have hno : nodeB n x = true := nodeB_iff.2 ⟨hx0, hxn⟩
                      have Hf := Lib.hid (stepS_yes (g := g) hno)
                      obtain ⟨xn, rfl⟩ : ∃ xn : Nat, x = (xn : Int) := ⟨x.toNat, by omega⟩
                      have hxl : xn < n := by omega
                      have y2 := Ht3.out.free xn
                      have y3 := Ht3.out.cell hxl
                      have Hset := Lib.hid (Ht3.out.setM hxl)
                      clear hno hx0 hxn
                      go_wp2
                      exact ⟨⟨l + 1, by go_num, by omega, by rw [Hst.out, Hf.out]; exact Hset.out.1, Hu3.out.trans Hset.out.2⟩, by simp [intOf]; omega⟩
                    · have hno : nodeB n x = false := by simp [nodeB, hxn]
                      have Hf := Lib.hid (stepS_no2 (b := true) (g := g) hno)
                      have d1 : decide (x < (n : Int)) = false := by simp [hxn]
                      clear hno
                      go_wp2
                      exact ⟨⟨l + 1, by go_num, by omega, by rw [Hst.out, Hf.out]; exact Ht3.out, Hu3.out⟩, by simp [intOf]; omega⟩
                  · have hno : nodeB n x = false := by simp [nodeB, hx0]
                    have Hf := Lib.hid (stepS_no2 (b := true) (g := g) hno)
                    have d0 : decide (0 ≤ x) = false := by simp [hx0]
                    clear hno
                    go_wp2
                    exact ⟨⟨l + 1, by go_num, by omega, by rw [Hst.out, Hf.out]; exact Ht3.out, Hu3.out⟩, by simp [intOf]; omega⟩
              · obtain rfl : l = L.length := by omega
                rw [List.take_length] at ht3
                have Ht3 := Lib.hid ht3; have Hu3 := Lib.hid hu3; clear ht3 hu3
                go_wp2
                exact ⟨⟨m + 1, by go_num, by omega, by rw [Hps.out]; exact Ht3.out, Hu3.out⟩, by simp [intOf]; omega⟩
          · obtain rfl : m = n := by omega
            have Hit := Lib.hid (show iterS E (fun m => m == i) (k + 1) = preS E (iterS E (fun m => m == i) k) m from by rw [iterS, ← Hn.out])
            go_wp2
            exact ⟨⟨k + 1, wo.heap.size, _, by go_num, rfl, by omega, Hwo.out, by rw [Hit.out]; exact Ht2.out, Hbo.out.trans (Hu2.out.below Hwo.out), Hno2.out⟩, by simp [intOf]; omega⟩
    · obtain rfl : k = n + 1 := by omega
      have hsd : sd E tg i = -1 := (sd_is E tg i).one (.inl ⟨rfl, fun m hm => by
        obtain ⟨d, _, h1, h2⟩ := hm.least
        have h3 := h1.short h2
        exact Hno.out d (by have := Hn.out; omega) h1⟩)
      have Hsd := Lib.hid hsd
      clear hsd
      go_wp2
      go_ret
      exact ⟨by rw [Hsd.out]; rfl, Hb.out⟩
end Go.Proofs.Yteejlibiidiibaa

namespace Go.Proofs.Yteejlibiidiibaa
open Go.RowKit
set_option maxRecDepth 100000
theorem pick_lo (E : Gr) (tg : Nat) (l : List Int) : pick E tg l = -1 ∨ (0 ≤ pick E tg l ∧ pick E tg l < (E.length : Int)) := by
  rcases pick_is E tg l with ⟨h, _⟩ | ⟨_, h, _⟩
  · exact .inl h
  · exact .inr (nodeB_iff.1 h)
theorem stepP_no {E : Gr} {tg : Nat} {b x : Int} (h : nodeB E.length x = false) : stepP E tg b x = b := by simp [stepP, betB, h]
theorem stepP_is {E : Gr} {tg : Nat} {b x : Int} (h : nodeB E.length x = true) : stepP E tg b x = if 0 ≤ sd E tg x.toNat ∧ (b < 0 ∨ sd E tg x.toNat < sd E tg b.toNat ∨ (sd E tg x.toNat = sd E tg b.toNat ∧ x < b)) then x else b := by
  unfold stepP betB
  rw [h]
  simp only [Bool.true_and, Bool.and_eq_true, Bool.or_eq_true, decide_eq_true_iff]
set_option maxHeartbeats 16000000 in
theorem refnext_any (w : World) (p : Option Addr) (n c : Nat) (E : Gr) (i tg : Nat) (h : GS w p n E) (hs : SmallG E) (hi : i < n) (ht : tg < n) :
    Calls Try.prog 29 #[.slice p n c, .int .i64 i, .int .i64 tg] w fun e w' => e = .returned (.int .i64 (nx E tg i)) ∧ Below w.heap.size w w' := by
  have hn : n ≤ 100000 := by rw [h.len]; exact hs.nodes
  have Hn := Lib.hid h.len
  have H := Lib.hid h; have HS := Lib.hid hs
  obtain ⟨a, o, q, cq, rfl, ha, hq, hcell, hrc⟩ := h.row (k := i) (by rw [← h.len]; exact hi)
  have hrow : E[i].length ≤ 100000 := hs.row i _
  have c0 := hcell w (Below.refl _ _)
  have Hrc := Lib.hid hrc
  have Hnx := Lib.hid (show nx E tg i = pick E tg E[i] by unfold nx; rw [getD_at])
  generalize E[i] = L at *
  clear h hs hrc hcell
  go_enter Try.func29, Try.ntmps29
  go_wp2
  go_loopw [17, 7, 8] (fun a b l wr => ∃ (m : Nat) (lv : Int), a = .int .i64 m ∧ m ≤ L.length ∧ b = .int .i64 (pick E tg (L.take m)) ∧ l = .int .i64 lv ∧ (pick E tg (L.take m) < 0 ∨ lv = sd E tg (pick E tg (L.take m)).toNat) ∧ Below w.heap.size w wr) (fun a _ _ _ => L.length - (intOf a).toNat)
  case atStart => exact ⟨0, 0, rfl, by omega, rfl, rfl, .inl (by simp [pick]), Below.refl _ _⟩
  case round =>
    obtain ⟨m, lv, rfl, hm, rfl, rfl, hlv, hb⟩ := hrel
    have Hb := Lib.hid hb
    have hpl := pick_lo E tg (L.take m)
    have Hlv := Lib.hid hlv
    clear hb hlv
    by_cases hlm : m < L.length
    · obtain ⟨a2, o2, rfl, ha2, y0⟩ := (Hrc.out wr Hb.out).at hlm
      have Hst := Lib.hid (pick_take (E := E) (tg := tg) hlm)
      generalize L[m] = x at *
      generalize pick E tg (L.take m) = b at *
      have Hpl := Lib.hid hpl
      clear hpl
      by_cases hx0 : x < 0
      · have d0 : decide (x < 0) = true := by simp [hx0]
        have Hf := Lib.hid (stepP_no (E := E) (tg := tg) (b := b) (x := x) (by simp [nodeB]; omega))
        go_wp2
        exact ⟨⟨m + 1, lv, by go_num, by omega, by rw [Hst.out, Hf.out], rfl, by rw [Hst.out, Hf.out]; exact Hlv.out, Hb.out⟩, by simp [intOf]; omega⟩
      · have d0 : decide (x < 0) = false := by simp; omega
        by_cases hxn : (n : Int) ≤ x
        · have d1 : decide ((n : Int) ≤ x) = true := by simp [hxn]
          have Hf := Lib.hid (stepP_no (E := E) (tg := tg) (b := b) (x := x) (by have := Hn.out; simp [nodeB]; omega))
          go_wp2
          exact ⟨⟨m + 1, lv, by go_num, by omega, by rw [Hst.out, Hf.out], rfl, by rw [Hst.out, Hf.out]; exact Hlv.out, Hb.out⟩, by simp [intOf]; omega⟩
        · have d1 : decide ((n : Int) ≤ x) = false := by simp; omega
          have hno : nodeB E.length x = true := nodeB_iff.2 ⟨by omega, by have := Hn.out; omega⟩
          have Hf := Lib.hid (stepP_is (E := E) (tg := tg) (b := b) hno)
          have hcall := away_any wr _ n c E x.toNat tg (H.out.below Hb.out) HS.out (by omega) ht
          rw [Int.toNat_of_nonneg (by omega)] at hcall
          have Hcall := Lib.hid hcall
          generalize hdd : sd E tg x.toNat = d at *
          have Hdd := Lib.hid hdd
          clear hcall hno hx0 hxn hdd
          by_cases hd : 0 ≤ d
          · have d2 : decide (0 ≤ d) = true := by simp [hd]
            by_cases hb0 : b < 0
            · have d3 : decide (b < 0) = true := by simp [hb0]
              have Hg := Lib.hid (show stepP E tg b x = x by rw [Hf.out, if_pos ⟨hd, .inl hb0⟩])
              clear hd hb0
              go_wp2_with (go_at_call 39; refine Hcall.out.mono ?_; rintro e w3 ⟨rfl, hb3⟩; have Hb3 := Lib.hid (Hb.out.step hb3); clear hb3)
              exact ⟨⟨m + 1, d, by go_num, by omega, by rw [Hst.out, Hg.out], rfl, .inr (by rw [Hst.out, Hg.out, Hdd.out]), Hb3.out⟩, by simp [intOf]; omega⟩
            · have d3 : decide (b < 0) = false := by simp; omega
              have hlv : lv = sd E tg b.toNat := by
                rcases Hlv.out with h | h
                · exact absurd h hb0
                · exact h
              by_cases h1 : d < lv
              · have d4 : decide (d < lv) = true := by simp [h1]
                have Hg := Lib.hid (show stepP E tg b x = x by rw [Hf.out, if_pos ⟨hd, .inr (.inl (by omega))⟩])
                clear hd hb0 hlv h1
                go_wp2_with (go_at_call 39; refine Hcall.out.mono ?_; rintro e w3 ⟨rfl, hb3⟩; have Hb3 := Lib.hid (Hb.out.step hb3); clear hb3)
                exact ⟨⟨m + 1, d, by go_num, by omega, by rw [Hst.out, Hg.out], rfl, .inr (by rw [Hst.out, Hg.out, Hdd.out]), Hb3.out⟩, by simp [intOf]; omega⟩
              · have d4 : decide (d < lv) = false := by simp; omega
                by_cases h2 : d = lv
                · have d5 : (d == lv) = true := by simp [h2]
                  by_cases h3 : x < b
                  · have d6 : decide (x < b) = true := by simp [h3]
                    have Hg := Lib.hid (show stepP E tg b x = x by rw [Hf.out, if_pos ⟨hd, .inr (.inr ⟨by omega, h3⟩)⟩])
                    clear hd hb0 hlv h1 h2 h3
                    go_wp2_with (go_at_call 39; refine Hcall.out.mono ?_; rintro e w3 ⟨rfl, hb3⟩; have Hb3 := Lib.hid (Hb.out.step hb3); clear hb3)
                    exact ⟨⟨m + 1, d, by go_num, by omega, by rw [Hst.out, Hg.out], rfl, .inr (by rw [Hst.out, Hg.out, Hdd.out]), Hb3.out⟩, by simp [intOf]; omega⟩
                  · have d6 : decide (x < b) = false := by simp; omega
                    have Hg := Lib.hid (show stepP E tg b x = b by rw [Hf.out, if_neg (by rintro ⟨_, h | h | ⟨_, h⟩⟩ <;> omega)])
                    clear hd hb0 hlv h1 h2 h3
                    go_wp2_with (go_at_call 39; refine Hcall.out.mono ?_; rintro e w3 ⟨rfl, hb3⟩; have Hb3 := Lib.hid (Hb.out.step hb3); clear hb3)
                    exact ⟨⟨m + 1, lv, by go_num, by omega, by rw [Hst.out, Hg.out], rfl, by rw [Hst.out, Hg.out]; exact Hlv.out, Hb3.out⟩, by simp [intOf]; omega⟩
                · have d5 : (d == lv) = false := by simp [h2]
                  have Hg := Lib.hid (show stepP E tg b x = b by rw [Hf.out, if_neg (by rintro ⟨_, h | h | ⟨h, _⟩⟩ <;> omega)])
                  clear hd hb0 hlv h1 h2
                  go_wp2_with (go_at_call 39; refine Hcall.out.mono ?_; rintro e w3 ⟨rfl, hb3⟩; have Hb3 := Lib.hid (Hb.out.step hb3); clear hb3)
                  exact ⟨⟨m + 1, lv, by go_num, by omega, by rw [Hst.out, Hg.out], rfl, by rw [Hst.out, Hg.out]; exact Hlv.out, Hb3.out⟩, by simp [intOf]; omega⟩
          · have d2 : decide (0 ≤ d) = false := by simp; omega
            have Hg := Lib.hid (show stepP E tg b x = b by rw [Hf.out, if_neg (by rintro ⟨h, _⟩; omega)])
            clear hd
            go_wp2_with (go_at_call 39; refine Hcall.out.mono ?_; rintro e w3 ⟨rfl, hb3⟩; have Hb3 := Lib.hid (Hb.out.step hb3); clear hb3)
            exact ⟨⟨m + 1, lv, by go_num, by omega, by rw [Hst.out, Hg.out], rfl, by rw [Hst.out, Hg.out]; exact Hlv.out, Hb3.out⟩, by simp [intOf]; omega⟩
    · obtain rfl : m = L.length := by omega
      rw [List.take_length] at hpl Hlv
      have Hpl := Lib.hid hpl
      go_wp2
      go_ret
      exact ⟨by rw [Hnx.out, List.take_length]; rfl, Hb.out⟩
end Go.Proofs.Yteejlibiidiibaa

namespace Go.Proofs.Yteejlibiidiibaa
open Go.RowKit
set_option maxRecDepth 100000
theorem own_one {w : World} {b B : Nat} {x : Int} (h : w.heap[b]? = some (.cells #[.int .i64 x] 3)) (hB : B ≤ b) : w.ownsRow B 3 1 (.slice (some ⟨b, 0, none⟩) 1 1) 1 (ic [x]) :=
  ⟨by simp [ic], .inr ⟨b, 1, _, rfl, hB, h, Nat.le_refl _, by decide, by simp, by simp [ic]⟩⟩
theorem it_one (E : Gr) (tg : Nat) : it E tg 1 = (nx E tg tg).toNat := rfl
/-- Where the way along the cycle stands. -/
structure ItI (E : Gr) (tg t : Nat) : Prop where
  pos : 0 < t
  lt : it E tg t < E.length
  ge : 0 ≤ sd E tg (it E tg t)
  len : sd E tg (it E tg t) + (t : Int) ≤ (E.length : Int)
  no : ∀ s, 0 < s → s < t → it E tg s ≠ tg
theorem ItI.start {E : Gr} {tg : Nat} (h : 0 ≤ nx E tg tg) : ItI E tg 1 := by
  rcases nx_cases E tg tg with e | ⟨j, h1, h2, h3, h4⟩
  · omega
  · have e : it E tg 1 = j := by rw [it_one, h1]; simp
    rcases sd_bd E tg j with h5 | h5
    · omega
    · exact ⟨by omega, by rw [e]; exact h2, by rw [e]; exact h4, by rw [e]; omega, fun s h6 h7 => by omega⟩
theorem ItI.next {E : Gr} {tg t : Nat} (h : ItI E tg t) (hne : it E tg t ≠ tg) : ItI E tg (t + 1) ∧ nx E tg (it E tg t) = ((it E tg (t + 1) : Nat) : Int) ∧ sd E tg (it E tg (t + 1)) < sd E tg (it E tg t) := by
  obtain ⟨q, h1, h2, h3, h4, h5⟩ := nx_near h.ge hne
  have e : it E tg (t + 1) = q := by show (nx E tg (it E tg t)).toNat = q; rw [h1]; simp
  have := h.len
  refine ⟨⟨by omega, by rw [e]; exact h2, by rw [e]; exact h4, by rw [e]; omega, fun s h6 h7 => ?_⟩, by rw [e]; exact h1, by rw [e]; exact h5⟩
  by_cases es : s = t
  · subst es; exact hne
  · exact h.no s h6 (by omega)
/-- How Cycle ends. -/
def CO (E : Gr) (w : World) (e : Ending) (w' : World) : Prop := ∃ xs v', CyR E xs ∧ e = .returned v' ∧ IS w' v' xs ∧ xs.length ≤ E.length ∧ Below w.heap.size w w'
theorem ItI.out {E : Gr} {tg t : Nat} (h : ItI E tg t) (he : it E tg t = tg) (htg : tg < E.length) (h0 : 0 ≤ nx E tg tg) (hl : ∀ i, i < tg → nx E i i < 0) : CyR E (itL E tg t) ∧ (itL E tg t).length ≤ E.length := by
  refine ⟨.inr ⟨tg, t, htg, h0, hl, h.pos, he, h.no, rfl⟩, ?_⟩
  rw [itL_len]
  have := h.ge; have := h.len; omega
theorem own_is {w : World} {B : Nat} {v : Value} {xs : List Int} (h : w.ownsRow B 3 1 v xs.length (ic xs)) : IS w v xs := (I3.of_own h).is
set_option maxHeartbeats 16000000 in
theorem refcycle_any (w : World) (p : Option Addr) (n c : Nat) (E : Gr) (h : GS w p n E) (hs : SmallG E) :
    Calls Try.prog 16 #[.slice p n c] w (CO E w) := by
  have hn : n ≤ 100000 := by rw [h.len]; exact hs.nodes
  have Hn := Lib.hid h.len
  have H := Lib.hid h; have HS := Lib.hid hs
  clear h hs
  go_enter Try.func16, Try.ntmps16
  go_wp2
  go_loopw [8] (fun a wr => ∃ k : Nat, a = .int .i64 k ∧ k ≤ n ∧ (∀ i, i < k → nx E i i < 0) ∧ Below w.heap.size w wr) (fun a _ => n - (intOf a).toNat)
  case atStart => exact ⟨0, rfl, by omega, fun i hi => by omega, Below.refl _ _⟩
  case round =>
    obtain ⟨k, rfl, hk, hno, hb⟩ := hrel
    have Hno := Lib.hid hno; have Hb := Lib.hid hb
    clear hno hb
    by_cases hlt : k < n
    · have Hcall := Lib.hid (refnext_any wr p n c E k k (H.out.below Hb.out) HS.out hlt hlt)
      generalize hq : nx E k k = q at *
      have Hq := Lib.hid hq
      clear hq
      by_cases hq0 : q < 0
      · have d0 : decide (q < 0) = true := by simp [hq0]
        have Hno2 := Lib.hid (show ∀ i, i < k + 1 → nx E i i < 0 from fun i hi => by
          by_cases e : i = k
          · subst e; rw [Hq.out]; exact hq0
          · exact Hno.out i (by omega))
        clear hq0
        go_wp2_with (go_at_call 29; refine Hcall.out.mono ?_; rintro e w3 ⟨rfl, hb3⟩; have Hb3 := Lib.hid (Hb.out.step hb3); clear hb3)
        exact ⟨⟨k + 1, by go_num, by omega, Hno2.out, Hb3.out⟩, by simp [intOf]; omega⟩
      · have d0 : decide (q < 0) = false := by simp; omega
        have HI := Lib.hid (ItI.start (E := E) (tg := k) (by rw [Hq.out]; omega))
        have Hi1 := Lib.hid (show q = ((it E k 1 : Nat) : Int) by rw [it_one, Hq.out]; omega)
        have Hnn := Lib.hid (show 0 ≤ nx E k k by rw [Hq.out]; omega)
        clear hq0
        go_upto_region 7 with (go_at_call 29; refine Hcall.out.mono ?_; rintro e w3 ⟨rfl, hb3⟩; have Hb3 := Lib.hid (Hb.out.step hb3); clear hb3)
        have b4 : Below w3.heap.size w3 (w3.alloc (.cells #[.int .i64 k] 3)) := (Below.refl _ _).alloc (Nat.le_refl _) _
        have o4 := Lib.hid (own_one (B := w3.heap.size) (heap_alloc_new w3 (.cells #[.int .i64 k] 3)) (Nat.le_refl _))
        generalize w3.alloc (.cells #[.int .i64 k] 3) = w4 at *
        have Hb4 := Lib.hid b4
        clear b4
        go_loopw [4, 5] (fun a v wr => ∃ (t : Nat) (y : Int), a = .int .i64 y ∧ y = ((it E k t : Nat) : Int) ∧ ItI E k t ∧ wr.ownsRow w3.heap.size 3 1 v t (ic (itL E k t)) ∧ Below w3.heap.size w3 wr) (fun a _ _ => (sd E k (intOf a).toNat).toNat)
        case atStart => exact ⟨1, q, rfl, Hi1.out, HI.out, o4.out, Hb4.out⟩
        case round =>
          obtain ⟨t, y, rfl, hy, hI, hown, hb5⟩ := hrel
          have HI2 := Lib.hid hI; have Ho := Lib.hid hown; have Hb5 := Lib.hid hb5
          have Hy := Lib.hid hy
          clear hI hown hb5
          by_cases he : y = (k : Int)
          · have d1 : (y != (k : Int)) = false := by simp [he]
            have hek : it E k t = k := by omega
            have Hout := Lib.hid (HI2.out.out hek (by rw [← Hn.out]; exact hlt) Hnn.out Hno.out)
            clear he hy hek
            go_wp2
            go_ret
            exact ⟨_, _, Hout.out.1, rfl, own_is (by rw [itL_len]; exact Ho.out), Hout.out.2, Hb3.out.trans (Hb5.out.mono Hb3.out.size)⟩
          · have d1 : (y != (k : Int)) = true := by simp [he]
            have hek : it E k t ≠ k := by omega
            have Hnext := Lib.hid (HI2.out.next hek)
            have hlen := HI2.out.len
            have hge := HI2.out.ge
            have hbd : t + 1 ≤ 67108864 := by have := Hn.out; omega
            have b6 : Below wr.heap.size wr (wr.alloc (.cells #[.int .i64 y] 3)) := (Below.refl _ _).alloc (Nat.le_refl _) _
            have n6 := heap_alloc_new wr (.cells #[.int .i64 y] 3)
            have Ho6 := Lib.hid (ownsRow_below Ho.out b6 (Nat.le_refl _)); have Hb6 := Lib.hid (Hb5.out.step b6)
            have Hrc := Lib.hid (show RC (wr.alloc (.cells #[.int .i64 y] 3)) 1 (some ⟨wr.heap.size, 0, none⟩) 1 (ic [y]) from RC.row rfl n6 (fun j u hu => by simpa [ic] using hu))
            have Hbz := Lib.hid Hb6.out.size
            have hitl : it E k t < n := by rw [Hn.out]; exact HI2.out.lt
            have Hitl := Lib.hid hitl
            clear b6 n6 he hek hlen hge hy hitl
            go_wp2_with (first
              | (at_builtin; go_loud (refine wpList_append_ownrc rfl (.tmp 22) (.tmp 24) 22 rfl 3 (by kernel_rfl) int_info rfl (by decide) (by decide) w3.heap.size _ (some ⟨wr.heap.size, 0, none⟩) t 1 1 _ (ic [y]) Hbz.out _ rfl rfl Ho6.out Hrc.out (ic_one _) hbd ?_); intro v7 w7 ho7 hf7; have Ho7 := Lib.hid ho7; have Hf7 := Lib.hid (Hb6.out.trans (hf7.below Hbz.out (by simp) (fun g hg => (Ho6.out.lt g hg).1))); clear ho7 hf7)
              | (go_at_call 29; have hc7 := refnext_any w7 p n c E (it E k t) k (H.out.below (Hb3.out.trans (Hf7.out.mono Hb3.out.size))) HS.out Hitl.out hlt; rw [← Hy.out] at hc7; refine hc7.mono ?_; clear hc7; rintro e w8 ⟨rfl, hb8⟩; have Hb8 := Lib.hid hb8; clear hb8))
            refine ⟨⟨t + 1, _, rfl, by rw [← Hnext.out.2.1], Hnext.out.1, ?_, Hf7.out.step Hb8.out⟩, ?_⟩
            · have h9 := ownsRow_below Ho7.out Hb8.out (Nat.le_refl _)
              rw [itL_succ, show ic (itL E k t ++ [((it E k t : Nat) : Int)]) = ic (itL E k t) ++ ic [y] by rw [Hy.out]; simp [ic]]
              exact h9
            · have h1 := Hnext.out.2.2
              have h2 := Hnext.out.1.ge
              have h3 := Hy.out
              simp only [intOf, Array.getD_eq_getD_getElem?]
              show (sd E k (nx E k (it E k t)).toNat).toNat < (sd E k y.toNat).toNat
              rw [Hnext.out.2.1, h3, Int.toNat_natCast, Int.toNat_natCast]
              omega
    · obtain rfl : k = n := by omega
      go_wp2
      go_ret
      exact ⟨[], _, .inl ⟨rfl, fun i hi => Hno.out i (by rw [Hn.out]; exact hi)⟩, rfl, IS.nil _, by simp, Hb.out⟩
end Go.Proofs.Yteejlibiidiibaa
