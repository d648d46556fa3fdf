/-
  Plain: components by depth-first search: what it keeps.
  Plain: components by depth-first search: a lower mark, a new node.
  Plain: components by depth-first search: a node is left.
  Plain: components by depth-first search: where it begins, where it ends, that it ends.
-/
import Derived.Test.YteejlibiidiibaaA2
namespace Go.Proofs.Yteejlibiidiibaa
/-- There is a way from i to j. -/
def Pth (E : Gr) (i j : Nat) : Prop := Rch E (fun k => k == i) j
theorem Pth.refl {E : Gr} {i : Nat} (h : i < E.length) : Pth E i i := .base i (by simp) h
theorem Pth.step {E : Gr} {i j k : Nat} (h : Pth E i j) (hk : (k : Int) ∈ E.getD j []) (hn : k < E.length) : Pth E i k := Rch.step j k h hk hn
theorem Pth.trans {E : Gr} {i j k : Nat} (h : Pth E i j) (h2 : Pth E j k) : Pth E i k :=
  Rch.mono (fun m _ hm => by have : m = j := by simpa using hm
                             subst this; exact h) h2
theorem Rch.lt {E : Gr} {S : Nat → Bool} {k : Nat} (h : Rch E S k) : k < E.length := by cases h <;> assumption
theorem Pth.closed {E : Gr} {P : Nat → Prop} {i k : Nat} (h : Pth E i k) (h0 : i < E.length → P i) (hs : ∀ i k : Nat, i < E.length → P i → (k : Int) ∈ E.getD i [] → k < E.length → P k) : P k := by
  unfold Pth at h
  induction h with
  | base m hm hl => have : m = i := by simpa using hm
                    subst this; exact h0 hl
  | step a b hr hm hl ih => exact hs a b hr.lt ih hm hl

structure TS where
  num : Nat → Nat
  low : Nat → Nat
  of : Nat → Int
  op : List Int
  gr : List (List Int)
  cnt : Nat
def TS.opn (s : TS) (v : Nat) : Prop := s.num v ≠ 0 ∧ s.of v = -1
abbrev Wk := List (Nat × Nat)
/-- The edge with this index has been handled. -/
def hd (W : Wk) (v x : Nat) : Prop := ∀ k d : Nat, W[k]? = some (v, d) → x < d
def isW (W : Wk) (v : Nat) : Prop := ∃ k d : Nat, W[k]? = some (v, d)

/-- What is known of the groups. -/
structure GI (E : Gr) (of : Nat → Int) (gr : List (List Int)) : Prop where
  ofr : ∀ i, i < E.length → of i = -1 ∨ (0 ≤ of i ∧ of i < (gr.length : Int))
  mem : ∀ (g : Nat) (G : List Int), gr[g]? = some G → ∀ x, x ∈ G ↔ ∃ i : Nat, i < E.length ∧ x = (i : Int) ∧ of i = (g : Int)
  asc : ∀ G, G ∈ gr → G.Pairwise (· < ·)
  ne : ∀ G, G ∈ gr → G ≠ []
  clo : ∀ i j : Nat, i < E.length → 0 ≤ of i → (j : Int) ∈ E.getD i [] → j < E.length → 0 ≤ of j
  mutr : ∀ i j : Nat, i < E.length → j < E.length → 0 ≤ of i → (of j = of i ↔ Pth E i j ∧ Pth E j i)
structure TI (E : Gr) (s : TS) (W : Wk) : Prop where
  gi : GI E s.of s.gr
  nle : ∀ i, i < E.length → s.num i ≤ s.cnt
  inj : ∀ i j, i < E.length → j < E.length → s.num i = s.num j → s.num i ≠ 0 → i = j
  unv : ∀ i, i < E.length → s.num i = 0 → s.of i = -1
  opm : ∀ x, x ∈ s.op ↔ ∃ i : Nat, i < E.length ∧ x = (i : Int) ∧ s.opn i
  ops : s.op.Pairwise fun x y => s.num x.toNat < s.num y.toNat
  wop : ∀ k i d : Nat, W[k]? = some (i, d) → i < E.length ∧ s.opn i ∧ d ≤ (E.getD i []).length
  wst : ∀ k k' i i' d d' : Nat, W[k]? = some (i, d) → W[k']? = some (i', d') → k < k' → s.num i < s.num i'
  c1 : ∀ k i d : Nat, W[k]? = some (i, d) → ∀ v, v < E.length → s.opn v → s.num i ≤ s.num v → Pth E i v
  c2 : ∀ v, v < E.length → s.opn v → ¬ isW W v → ∃ k i d : Nat, W[k]? = some (i, d) ∧ s.num i < s.num v ∧ Pth E v i
  dd : ∀ v x j : Nat, v < E.length → s.opn v → (E.getD v [])[x]? = some (j : Int) → j < E.length → hd W v x → s.num j ≠ 0
  e1 : ∀ k i d : Nat, W[k]? = some (i, d) → s.low i ≤ s.num i ∧ ∃ v, v < E.length ∧ s.opn v ∧ s.num v = s.low i ∧ Pth E i v
  e2 : ∀ k i d : Nat, W[k]? = some (i, d) → ∀ v, v < E.length → s.opn v → s.num i ≤ s.num v → (∀ i' d' : Nat, W[k + 1]? = some (i', d') → s.num v < s.num i') →
    ∀ x j : Nat, (E.getD v [])[x]? = some (j : Int) → j < E.length → hd W v x → s.of j = -1 → s.low i ≤ s.num j
theorem TI.at_eq {E : Gr} {s : TS} {W : Wk} (H : TI E s W) {k k' i d d' : Nat} (h : W[k]? = some (i, d)) (h' : W[k']? = some (i, d')) : k = k' := by
  rcases Nat.lt_trichotomy k k' with h1 | h1 | h1
  · have := H.wst _ _ _ _ _ _ h h' h1; omega
  · exact h1
  · have := H.wst _ _ _ _ _ _ h' h h1; omega

/-- The next edge of a node in progress is handled. -/
theorem TI.advance {E : Gr} {s : TS} {W : Wk} (H : TI E s W) {k i d : Nat} (hk : W[k]? = some (i, d)) (hd' : d < (E.getD i []).length)
    (hj : ∀ j : Nat, (E.getD i [])[d]? = some (j : Int) → j < E.length → s.num j ≠ 0 ∧ (s.of j = -1 → s.low i ≤ s.num j)) : TI E s (W.set k (i, d + 1)) := by
  have hkl : k < W.length := by
    rcases Nat.lt_or_ge k W.length with h | h
    · exact h
    · rw [List.getElem?_eq_none h] at hk; cases hk
  have get : ∀ q a b : Nat, (W.set k (i, d + 1))[q]? = some (a, b) → (q = k ∧ a = i ∧ b = d + 1) ∨ (q ≠ k ∧ W[q]? = some (a, b)) := by
    intro q a b h
    rw [List.getElem?_set] at h
    by_cases e : k = q
    · subst e; rw [if_pos rfl, if_pos hkl] at h; cases h; exact .inl ⟨rfl, rfl, rfl⟩
    · rw [if_neg e] at h; exact .inr ⟨fun e2 => e e2.symm, h⟩
  have get' : ∀ q a b : Nat, W[q]? = some (a, b) → ∃ b', (W.set k (i, d + 1))[q]? = some (a, b') ∧ b ≤ b' := by
    intro q a b h
    rw [List.getElem?_set]
    by_cases e : k = q
    · subst e; rw [hk] at h; cases h; exact ⟨d + 1, by rw [if_pos rfl, if_pos hkl], by omega⟩
    · exact ⟨b, by rw [if_neg e]; exact h, Nat.le_refl _⟩
  have old : ∀ q a b : Nat, (W.set k (i, d + 1))[q]? = some (a, b) → ∃ b', W[q]? = some (a, b') := by
    intro q a b h
    rcases get q a b h with ⟨rfl, rfl, _⟩ | ⟨_, h2⟩
    · exact ⟨d, hk⟩
    · exact ⟨b, h2⟩
  have hdn : ∀ v x, hd (W.set k (i, d + 1)) v x → hd W v x ∨ (v = i ∧ x = d) := by
    intro v x h
    by_cases e : v = i ∧ x = d
    · exact .inr e
    · refine .inl fun q b hq => ?_
      rcases Nat.lt_or_ge x b with h1 | h1
      · exact h1
      · exfalso
        obtain ⟨b', hb', hle⟩ := get' q v b hq
        have := h q b' hb'
        rcases get q v b' hb' with ⟨rfl, rfl, rfl⟩ | ⟨hne, h2⟩
        · rw [hk] at hq; cases hq
          exact e ⟨rfl, by omega⟩
        · rw [hq] at h2; cases h2; omega
  refine ⟨H.gi, H.nle, H.inj, H.unv, H.opm, H.ops, fun q a b h => ?_, fun q q' a a' b b' h h' hl => ?_, fun q a b h => ?_, fun v hv ho hw => ?_, fun v x j hv ho hx hjn hh => ?_, fun q a b h => ?_, fun q a b h v hv ho hle hup x j hx hjn hh hof => ?_⟩
  · rcases get q a b h with ⟨rfl, rfl, rfl⟩ | ⟨_, h2⟩
    · obtain ⟨h1, h2, _⟩ := H.wop _ _ _ hk
      exact ⟨h1, h2, by omega⟩
    · exact H.wop _ _ _ h2
  · obtain ⟨_, h1⟩ := old _ _ _ h
    obtain ⟨_, h2⟩ := old _ _ _ h'
    exact H.wst _ _ _ _ _ _ h1 h2 hl
  · obtain ⟨_, h1⟩ := old _ _ _ h
    exact H.c1 _ _ _ h1
  · obtain ⟨q, a, b, h1, h2, h3⟩ := H.c2 v hv ho fun ⟨q, b, h⟩ => by
      obtain ⟨b', h', _⟩ := get' _ _ _ h
      exact hw ⟨q, b', h'⟩
    obtain ⟨b', h', _⟩ := get' _ _ _ h1
    exact ⟨q, a, b', h', h2, h3⟩
  · rcases hdn v x hh with h1 | ⟨rfl, rfl⟩
    · exact H.dd v x j hv ho hx hjn h1
    · exact (hj j hx hjn).1
  · obtain ⟨_, h1⟩ := old _ _ _ h
    exact H.e1 _ _ _ h1
  · obtain ⟨b0, h1⟩ := old _ _ _ h
    rcases hdn v x hh with h2 | ⟨rfl, rfl⟩
    · refine H.e2 _ _ _ h1 v hv ho hle (fun i' d' h3 => ?_) x j hx hjn h2 hof
      obtain ⟨_, h4, _⟩ := get' _ _ _ h3
      exact hup _ _ h4
    · have : a = v := by
        rcases Nat.lt_trichotomy q k with h3 | h3 | h3
        · obtain ⟨b5, h5⟩ : ∃ b5, W[q + 1]? = some b5 := ⟨_, List.getElem?_eq_getElem (by omega)⟩
          obtain ⟨a5, b5⟩ := b5
          obtain ⟨_, h6, _⟩ := get' _ _ _ h5
          have h7 := hup _ _ h6
          rcases Nat.lt_or_ge (q + 1) k with h8 | h8
          · have := H.wst _ _ _ _ _ _ h5 hk h8; omega
          · have : q + 1 = k := by omega
            rw [this, hk] at h5; cases h5; omega
        · subst h3; rw [hk] at h1; cases h1; rfl
        · have := H.wst _ _ _ _ _ _ hk h1 h3; omega
      subst this
      exact (hj j hx hjn).2 hof
end Go.Proofs.Yteejlibiidiibaa

namespace Go.Proofs.Yteejlibiidiibaa
def upN (f : Nat → Nat) (i x : Nat) : Nat → Nat := fun m => if m = i then x else f m
theorem upN_at (f : Nat → Nat) (i x : Nat) : upN f i x i = x := by simp [upN]
theorem upN_ne {f : Nat → Nat} {i x m : Nat} (h : m ≠ i) : upN f i x m = f m := by simp [upN, h]
def TS.lower (s : TS) (i x : Nat) : TS := { s with low := upN s.low i x }
def TS.begin' (s : TS) (j : Nat) : TS := { s with num := upN s.num j (s.cnt + 1), low := upN s.low j (s.cnt + 1), op := s.op ++ [(j : Int)], cnt := s.cnt + 1 }

theorem TI.lower {E : Gr} {s : TS} {W : Wk} (H : TI E s W) {k i d j : Nat} (hk : W[k]? = some (i, d)) (hj : j < E.length) (ho : s.opn j) (hp : Pth E i j) : TI E (s.lower i (min (s.low i) (s.num j))) W := by
  have hle : ∀ a, (upN s.low i (min (s.low i) (s.num j))) a ≤ s.low a := by
    intro a
    by_cases e : a = i
    · subst e; rw [upN_at]; omega
    · rw [upN_ne e]; exact Nat.le_refl _
  refine ⟨H.gi, H.nle, H.inj, H.unv, H.opm, H.ops, H.wop, H.wst, H.c1, H.c2, H.dd, fun q a b h => ?_, fun q a b h v hv hov hle' hup x j' hx hjn hh hof => ?_⟩
  · obtain ⟨h1, v, h2, h3, h4, h5⟩ := H.e1 _ _ _ h
    refine ⟨Nat.le_trans (hle a) h1, ?_⟩
    show ∃ v, v < E.length ∧ s.opn v ∧ s.num v = (upN s.low i (min (s.low i) (s.num j))) a ∧ Pth E a v
    by_cases e : a = i
    · subst e
      rw [upN_at]
      by_cases hm : s.low a ≤ s.num j
      · exact ⟨v, h2, h3, by omega, h5⟩
      · exact ⟨j, hj, ho, by omega, hp⟩
    · rw [upN_ne e]; exact ⟨v, h2, h3, h4, h5⟩
  · exact Nat.le_trans (hle a) (H.e2 _ _ _ h v hv hov hle' hup x j' hx hjn hh hof)

theorem snoc_get {W : Wk} {j q a b : Nat} (h : (W ++ [(j, 0)])[q]? = some (a, b)) : W[q]? = some (a, b) ∨ (q = W.length ∧ a = j ∧ b = 0) := by
  rw [List.getElem?_append] at h
  split at h
  · exact .inl h
  · rename_i hq
    rcases Nat.lt_or_ge (q - W.length) 1 with h1 | h1
    · have : q - W.length = 0 := by omega
      rw [this] at h
      simp at h
      exact .inr ⟨by omega, h.1.symm, h.2.symm⟩
    · rw [List.getElem?_eq_none (by simpa using h1)] at h; cases h
theorem snoc_old {W : Wk} {x : Nat × Nat} {q a b : Nat} (h : W[q]? = some (a, b)) : (W ++ [x])[q]? = some (a, b) := by
  have hl : q < W.length := by
    rcases Nat.lt_or_ge q W.length with h' | h'
    · exact h'
    · rw [List.getElem?_eq_none h'] at h; cases h
  rw [List.getElem?_append_left hl]; exact h
theorem get_lt {W : Wk} {q a b : Nat} (h : W[q]? = some (a, b)) : q < W.length := by
  rcases Nat.lt_or_ge q W.length with h' | h'
  · exact h'
  · rw [List.getElem?_eq_none h'] at h; cases h

theorem TI.push {E : Gr} {s : TS} {W : Wk} (H : TI E s W) {j : Nat} (hj : j < E.length) (h0 : s.num j = 0) (hp : ∀ k i d : Nat, W[k]? = some (i, d) → Pth E i j) : TI E (s.begin' j) (W ++ [(j, 0)]) := by
  have nj : (s.begin' j).num j = s.cnt + 1 := upN_at _ _ _
  have nn : ∀ m, m ≠ j → (s.begin' j).num m = s.num m := fun m h => upN_ne h
  have ln : ∀ m, m ≠ j → (s.begin' j).low m = s.low m := fun m h => upN_ne h
  have lj : (s.begin' j).low j = s.cnt + 1 := upN_at _ _ _
  have hof : s.of j = -1 := H.unv j hj h0
  have opj : (s.begin' j).opn j := ⟨by rw [nj]; omega, hof⟩
  have opn : ∀ m, m ≠ j → ((s.begin' j).opn m ↔ s.opn m) := fun m h => by unfold TS.opn; rw [nn m h]; exact Iff.rfl
  have wne : ∀ k i d : Nat, W[k]? = some (i, d) → i ≠ j := fun k i d h e => by
    obtain ⟨_, h2, _⟩ := H.wop _ _ _ h
    subst e; exact h2.1 h0
  have one : ∀ m, s.opn m → m ≠ j := fun m h e => by subst e; exact h.1 h0
  have hds : ∀ v x, hd (W ++ [(j, 0)]) v x → hd W v x := fun v x h q d hq => h q d (snoc_old hq)
  have hdj : ∀ x, ¬ hd (W ++ [(j, 0)]) j x := fun x h => by
    have := h W.length 0 (by simp)
    omega
  refine ⟨H.gi, fun i hi => ?_, fun a b ha hb hab hne => ?_, fun i hi h => ?_, fun x => ?_, ?_, fun q a b h => ?_, fun q q' a a' b b' h h' hl => ?_, fun q a b h v hv ho hle => ?_, fun v hv ho hw => ?_, fun v x j' hv ho hx hjn hh => ?_, fun q a b h => ?_, fun q a b h v hv ho hle hup x j' hx hjn hh hof' => ?_⟩
  · show (s.begin' j).num i ≤ s.cnt + 1
    by_cases e : i = j
    · subst e; omega
    · rw [nn i e]; have := H.nle i hi; omega
  · by_cases ea : a = j
    · by_cases eb : b = j
      · omega
      · subst ea; rw [nj, nn b eb] at hab
        have := H.nle b hb; omega
    · by_cases eb : b = j
      · subst eb; rw [nj, nn a ea] at hab
        have := H.nle a ha; omega
      · rw [nn a ea, nn b eb] at hab; rw [nn a ea] at hne
        exact H.inj a b ha hb hab hne
  · by_cases e : i = j
    · subst e; exact hof
    · rw [nn i e] at h; exact H.unv i hi h
  · show x ∈ s.op ++ [(j : Int)] ↔ _
    rw [List.mem_append, List.mem_singleton, H.opm]
    constructor
    · rintro (⟨i, h1, h2, h3⟩ | rfl)
      · exact ⟨i, h1, h2, (opn i (one i h3)).2 h3⟩
      · exact ⟨j, hj, rfl, opj⟩
    · rintro ⟨i, h1, h2, h3⟩
      by_cases e : i = j
      · subst e; exact .inr h2
      · exact .inl ⟨i, h1, h2, (opn i e).1 h3⟩
  · show (s.op ++ [(j : Int)]).Pairwise _
    have hne : ∀ x, x ∈ s.op → x.toNat ≠ j ∧ x.toNat < E.length := fun x hx => by
      obtain ⟨i, h1, h2, h3⟩ := (H.opm x).1 hx
      have : x.toNat = i := by omega
      rw [this]; exact ⟨one i h3, h1⟩
    rw [List.pairwise_append]
    refine ⟨?_, List.pairwise_singleton _ _, fun x hx y hy => ?_⟩
    · exact H.ops.imp_of_mem fun {x y} hx hy h => by rw [nn _ (hne x hx).1, nn _ (hne y hy).1]; exact h
    · rw [List.mem_singleton] at hy; subst hy
      rw [Int.toNat_natCast, nj, nn _ (hne x hx).1]
      have := H.nle _ (hne x hx).2; omega
  · rcases snoc_get h with h1 | ⟨rfl, rfl, rfl⟩
    · obtain ⟨h2, h3, h4⟩ := H.wop _ _ _ h1
      exact ⟨h2, (opn a (wne _ _ _ h1)).2 h3, h4⟩
    · exact ⟨hj, opj, by omega⟩
  · rcases snoc_get h with h1 | ⟨rfl, rfl, rfl⟩
    · rcases snoc_get h' with h2 | ⟨rfl, rfl, rfl⟩
      · rw [nn _ (wne _ _ _ h1), nn _ (wne _ _ _ h2)]; exact H.wst _ _ _ _ _ _ h1 h2 hl
      · rw [nj, nn _ (wne _ _ _ h1)]
        obtain ⟨h2, _, _⟩ := H.wop _ _ _ h1
        have := H.nle a h2; omega
    · rcases snoc_get h' with h2 | ⟨rfl, rfl, rfl⟩
      · have := get_lt h2; omega
      · omega
  · rcases snoc_get h with h1 | ⟨rfl, rfl, rfl⟩
    · by_cases e : v = j
      · subst e; exact hp _ _ _ h1
      · rw [nn v e, nn a (wne _ _ _ h1)] at hle
        exact H.c1 _ _ _ h1 v hv ((opn v e).1 ho) hle
    · by_cases e : v = a
      · subst e; exact .refl hv
      · rw [nj, nn v e] at hle
        have := H.nle v hv; omega
  · have e : v ≠ j := fun e => hw ⟨W.length, 0, by simp [e]⟩
    obtain ⟨k, i, d, h1, h2, h3⟩ := H.c2 v hv ((opn v e).1 ho) fun ⟨q, d, hq⟩ => hw ⟨q, d, snoc_old hq⟩
    exact ⟨k, i, d, snoc_old h1, by rw [nn v e, nn i (wne _ _ _ h1)]; exact h2, h3⟩
  · by_cases e : v = j
    · subst e; exact absurd hh (hdj x)
    · have := H.dd v x j' hv ((opn v e).1 ho) hx hjn (hds v x hh)
      by_cases e2 : j' = j
      · subst e2; rw [nj]; omega
      · rw [nn j' e2]; exact this
  · rcases snoc_get h with h1 | ⟨rfl, rfl, rfl⟩
    · obtain ⟨h2, v, h3, h4, h5, h6⟩ := H.e1 _ _ _ h1
      have e := wne _ _ _ h1
      exact ⟨by rw [ln a e, nn a e]; exact h2, v, h3, (opn v (one v h4)).2 h4, by rw [nn v (one v h4), ln a e]; exact h5, h6⟩
    · exact ⟨by rw [lj, nj]; omega, a, hj, opj, by rw [lj, nj], .refl hj⟩
  · by_cases e : v = j
    · subst e; exact absurd hh (hdj x)
    · rcases snoc_get h with h1 | ⟨rfl, rfl, rfl⟩
      · have ea := wne _ _ _ h1
        rw [nn v e, nn a ea] at hle
        rw [ln a ea]
        by_cases e2 : j' = j
        · subst e2; rw [nj]
          obtain ⟨h2, _⟩ := H.e1 _ _ _ h1
          obtain ⟨h3, _, _⟩ := H.wop _ _ _ h1
          have := H.nle a h3; omega
        · rw [nn j' e2]
          refine H.e2 _ _ _ h1 v hv ((opn v e).1 ho) hle (fun i' d' h3 => ?_) x j' hx hjn (hds v x hh) hof'
          have := hup i' d' (snoc_old h3)
          rwa [nn v e, nn i' (wne _ _ _ h3)] at this
      · rw [nj, nn v e] at hle
        have := H.nle v hv; omega
end Go.Proofs.Yteejlibiidiibaa

namespace Go.Proofs.Yteejlibiidiibaa
theorem last_get {W : Wk} {j d q a b : Nat} (h : (W ++ [(j, d)])[q]? = some (a, b)) : W[q]? = some (a, b) ∨ (q = W.length ∧ a = j ∧ b = d) := by
  rw [List.getElem?_append] at h
  split at h
  · exact .inl h
  · rename_i hq
    rcases Nat.lt_or_ge (q - W.length) 1 with h1 | h1
    · have : q - W.length = 0 := by omega
      rw [this] at h
      simp at h
      exact .inr ⟨by omega, h.1.symm, h.2.symm⟩
    · rw [List.getElem?_eq_none (by simpa using h1)] at h; cases h
theorem last_at (W : Wk) (x : Nat × Nat) : (W ++ [x])[W.length]? = some x := by simp
theorem lower_self (s : TS) (i : Nat) : s.lower i (s.low i) = s := by
  have : upN s.low i (s.low i) = s.low := by funext m; by_cases e : m = i <;> simp [upN, e]
  unfold TS.lower; rw [this]

section
variable {E : Gr} {s : TS} {W : Wk} {i d : Nat}
/-- Nothing of the nodes in progress stands above the last one. -/
theorem TI.last_isW (H : TI E s (W ++ [(i, d)])) {v : Nat} (hv : isW (W ++ [(i, d)]) v) (hle : s.num i ≤ s.num v) : v = i := by
  obtain ⟨q, b, h⟩ := hv
  rcases last_get h with h1 | ⟨_, h1, _⟩
  · have := H.wst _ _ _ _ _ _ h (last_at W (i, d)) (get_lt h1); omega
  · exact h1
theorem TI.handled (H : TI E s (W ++ [(i, d)])) (hd' : d = (E.getD i []).length) {v x j : Nat} (hle : s.num i ≤ s.num v) (hx : (E.getD v [])[x]? = some (j : Int)) : hd (W ++ [(i, d)]) v x := by
  intro q b hq
  have hvi := H.last_isW ⟨q, b, hq⟩ hle
  subst hvi
  have := H.at_eq hq (last_at W (v, d))
  subst this
  rw [last_at] at hq
  cases hq
  rw [hd']
  rcases Nat.lt_or_ge x (E.getD v []).length with h | h
  · exact h
  · rw [List.getElem?_eq_none h] at hx; cases hx
theorem mem_get {l : List Int} {x : Int} (h : x ∈ l) : ∃ k : Nat, l[k]? = some x := by
  obtain ⟨k, hk, e⟩ := List.mem_iff_getElem.1 h
  exact ⟨k, by rw [List.getElem?_eq_getElem hk, e]⟩
/-- The successors of the last one's nodes. -/
theorem TI.succ (H : TI E s (W ++ [(i, d)])) (hd' : d = (E.getD i []).length) (hl : s.low i = s.num i) {v j : Nat} (hv : v < E.length) (ho : s.opn v) (hle : s.num i ≤ s.num v) (hj : (j : Int) ∈ E.getD v []) (hjn : j < E.length) :
    0 ≤ s.of j ∨ (s.opn j ∧ s.num i ≤ s.num j) := by
  obtain ⟨x, hx⟩ := mem_get hj
  have hh := H.handled hd' hle hx
  have h1 := H.dd v x j hv ho hx hjn hh
  rcases H.gi.ofr j hjn with h2 | h2
  · refine .inr ⟨⟨h1, h2⟩, ?_⟩
    have := H.e2 _ _ _ (last_at W (i, d)) v hv ho hle (fun i' d' h => by have := get_lt h; simp at this) x j hx hjn hh h2
    omega
  · exact .inl h2.1
theorem TI.seg (H : TI E s (W ++ [(i, d)])) (hd' : d = (E.getD i []).length) (hl : s.low i = s.num i) {v u : Nat} (ho : s.opn v) (hle : s.num i ≤ s.num v) (hp : Pth E v u) : 0 ≤ s.of u ∨ (s.opn u ∧ s.num i ≤ s.num u) := by
  refine hp.closed (P := fun u => 0 ≤ s.of u ∨ (s.opn u ∧ s.num i ≤ s.num u)) (fun _ => .inr ⟨ho, hle⟩) ?_
  intro a b ha h hb hbn
  rcases h with h | ⟨h1, h2⟩
  · exact .inl (H.gi.clo a b ha h hb hbn)
  · exact H.succ hd' hl ha h1 h2 hb hbn
theorem TI.back (H : TI E s (W ++ [(i, d)])) (hd' : d = (E.getD i []).length) (hl : s.low i = s.num i) {v : Nat} (hv : v < E.length) (ho : s.opn v) (hle : s.num i ≤ s.num v) : Pth E v i := by
  by_cases e : v = i
  · subst e; exact .refl hv
  · obtain ⟨k, a, b, h1, h2, h3⟩ := H.c2 v hv ho fun h => e (H.last_isW h hle)
    obtain ⟨_, h4, _⟩ := H.wop _ _ _ h1
    rcases H.seg hd' hl ho hle h3 with h5 | ⟨_, h5⟩
    · rw [h4.2] at h5; omega
    · have := H.last_isW ⟨k, b, h1⟩ h5
      subst this; exact h3
theorem GI.pth {of : Nat → Int} {gr : List (List Int)} (H : GI E of gr) {a b : Nat} (h : 0 ≤ of a) (hp : Pth E a b) : 0 ≤ of b :=
  hp.closed (P := fun u => 0 ≤ of u) (fun _ => h) fun i k hi h1 h2 h3 => H.clo i k hi h1 h2 h3
end
def TS.close (s : TS) (k : Nat) (G : List Int) : TS := { s with of := fun m => if (m : Int) ∈ G then (s.gr.length : Int) else s.of m, op := s.op.take k, gr := s.gr ++ [G] }

/-- The open nodes from i on are those that were met behind i. -/
theorem TI.drop {E : Gr} {s : TS} {W : Wk} (H : TI E s W) {i k : Nat} (hk : s.op[k]? = some (i : Int)) (x : Int) :
    (x ∈ s.op.drop k ↔ ∃ v : Nat, v < E.length ∧ x = (v : Int) ∧ s.opn v ∧ s.num i ≤ s.num v) ∧ (x ∈ s.op.take k ↔ ∃ v : Nat, v < E.length ∧ x = (v : Int) ∧ s.opn v ∧ s.num v < s.num i) := by
  have hkl : k < s.op.length := by
    rcases Nat.lt_or_ge k s.op.length with h | h
    · exact h
    · rw [List.getElem?_eq_none h] at hk; cases hk
  have hki : s.op[k] = (i : Int) := by rw [List.getElem?_eq_getElem hkl] at hk; exact Option.some.inj hk
  have lo : ∀ y ∈ s.op.take k, s.num y.toNat < s.num i := by
    intro y hy
    obtain ⟨a, ha, e⟩ := List.mem_iff_getElem.1 hy
    rw [List.length_take] at ha
    rw [List.getElem_take] at e
    have := List.pairwise_iff_getElem.1 H.ops a k (by omega) hkl (by omega)
    rw [e, hki] at this
    simpa using this
  have hi : ∀ y ∈ s.op.drop k, s.num i ≤ s.num y.toNat := by
    intro y hy
    obtain ⟨a, ha, e⟩ := List.mem_iff_getElem.1 hy
    rw [List.length_drop] at ha
    rw [List.getElem_drop] at e
    rcases Nat.eq_zero_or_pos a with h0 | h0
    · subst h0
      simp only [Nat.add_zero] at e
      rw [hki] at e; subst e; simp
    · have := List.pairwise_iff_getElem.1 H.ops k (k + a) hkl (by omega) (by omega)
      rw [e, hki] at this
      have h2 : s.num i < s.num y.toNat := by simpa using this
      omega
  have hall : ∀ y, y ∈ s.op ↔ y ∈ s.op.take k ∨ y ∈ s.op.drop k := fun y => by rw [← List.mem_append, List.take_append_drop]
  constructor
  · constructor
    · intro hx
      obtain ⟨v, h1, h2, h3⟩ := (H.opm x).1 ((hall x).2 (.inr hx))
      have := hi x hx
      rw [h2, Int.toNat_natCast] at this
      exact ⟨v, h1, h2, h3, this⟩
    · rintro ⟨v, h1, h2, h3, h4⟩
      rcases (hall x).1 ((H.opm x).2 ⟨v, h1, h2, h3⟩) with h5 | h5
      · have := lo x h5; rw [h2, Int.toNat_natCast] at this; omega
      · exact h5
  · constructor
    · intro hx
      obtain ⟨v, h1, h2, h3⟩ := (H.opm x).1 ((hall x).2 (.inl hx))
      have := lo x hx
      rw [h2, Int.toNat_natCast] at this
      exact ⟨v, h1, h2, h3, this⟩
    · rintro ⟨v, h1, h2, h3, h4⟩
      rcases (hall x).1 ((H.opm x).2 ⟨v, h1, h2, h3⟩) with h5 | h5
      · exact h5
      · have := hi x h5; rw [h2, Int.toNat_natCast] at this; omega

theorem TI.close {E : Gr} {s : TS} {W : Wk} {i d k : Nat} {G : List Int} (H : TI E s (W ++ [(i, d)])) (hd' : d = (E.getD i []).length) (hl : s.low i = s.num i) (hk : s.op[k]? = some (i : Int)) (hG : ∀ x, x ∈ G ↔ x ∈ s.op.drop k) (hs : G.Pairwise (· < ·)) :
    TI E (s.close k G) W := by
  have hG' : ∀ v : Nat, (v : Int) ∈ G ↔ v < E.length ∧ s.opn v ∧ s.num i ≤ s.num v := fun v => by
    rw [hG, (H.drop hk _).1]
    constructor
    · rintro ⟨u, h1, h2, h3, h4⟩
      have : v = u := by omega
      subst this; exact ⟨h1, h3, h4⟩
    · rintro ⟨h1, h2, h3⟩; exact ⟨v, h1, rfl, h2, h3⟩
  have ofn : ∀ v, (s.close k G).of v = if (v : Int) ∈ G then (s.gr.length : Int) else s.of v := fun v => rfl
  have ofin : ∀ v : Nat, (v : Int) ∈ G → (s.close k G).of v = (s.gr.length : Int) := fun v h => by rw [ofn, if_pos h]
  have ofout : ∀ v : Nat, ¬ (v : Int) ∈ G → (s.close k G).of v = s.of v := fun v h => by rw [ofn, if_neg h]
  have opo : ∀ v, v < E.length → ((s.close k G).opn v ↔ s.opn v ∧ s.num v < s.num i) := fun v hv => by
    show s.num v ≠ 0 ∧ (s.close k G).of v = -1 ↔ _
    by_cases h : (v : Int) ∈ G
    · rw [ofin v h]
      obtain ⟨_, h2, h3⟩ := (hG' v).1 h
      constructor
      · intro h4; omega
      · intro h4; omega
    · rw [ofout v h]
      constructor
      · intro h4; refine ⟨h4, ?_⟩
        rcases Nat.lt_or_ge (s.num v) (s.num i) with h5 | h5
        · exact h5
        · exact absurd ((hG' v).2 ⟨hv, h4, h5⟩) h
      · exact fun h4 => h4.1
  have hiw := H.wop _ _ _ (last_at W (i, d))
  have hiG : (i : Int) ∈ G := (hG' i).2 ⟨hiw.1, hiw.2.1, Nat.le_refl _⟩
  have ofneg : ∀ v : Nat, (v : Int) ∈ G → s.of v = -1 := fun v h => ((hG' v).1 h).2.1.2
  have wlt : ∀ {q a b : Nat}, W[q]? = some (a, b) → s.num a < s.num i := fun h => H.wst _ _ _ _ _ _ (snoc_old h) (last_at W (i, d)) (get_lt h)
  have hds : ∀ v x, v ≠ i → hd W v x → hd (W ++ [(i, d)]) v x := fun v x hne h q b hq => by
    rcases last_get hq with h1 | ⟨_, h1, _⟩
    · exact h q b h1
    · exact absurd h1 hne
  have old0 : ∀ j, 0 ≤ s.of j → 0 ≤ (s.close k G).of j := fun j h => by
    rw [ofn]; split
    · omega
    · exact h
  have gi' : GI E (s.close k G).of (s.close k G).gr := by
    have hgl : (s.close k G).gr.length = s.gr.length + 1 := by simp [TS.close]
    refine ⟨fun v hv => ?_, fun g G' hg x => ?_, fun G' hG2 => ?_, fun G' hG2 => ?_, fun a b ha h0 hb hbn => ?_, fun a b ha hb h0 => ?_⟩
    · rw [hgl, ofn]
      split
      · exact .inr ⟨by omega, by omega⟩
      · rcases H.gi.ofr v hv with h | h
        · exact .inl h
        · exact .inr ⟨h.1, by omega⟩
    · rcases Nat.lt_or_ge g s.gr.length with h | h
      · have hg' : s.gr[g]? = some G' := by
          have : (s.gr ++ [G])[g]? = some G' := hg
          rwa [List.getElem?_append_left h] at this
        rw [H.gi.mem g G' hg' x]
        constructor
        · rintro ⟨v, h1, h2, h3⟩
          have : ¬ (v : Int) ∈ G := fun h4 => by rw [ofneg v h4] at h3; omega
          exact ⟨v, h1, h2, by rw [ofout v this]; exact h3⟩
        · rintro ⟨v, h1, h2, h3⟩
          by_cases h4 : (v : Int) ∈ G
          · rw [ofin v h4] at h3; omega
          · rw [ofout v h4] at h3; exact ⟨v, h1, h2, h3⟩
      · have hgl2 : g < (s.gr ++ [G]).length := by
          rcases Nat.lt_or_ge g (s.gr ++ [G]).length with h5 | h5
          · exact h5
          · have : (s.gr ++ [G])[g]? = some G' := hg
            rw [List.getElem?_eq_none h5] at this; cases this
        simp at hgl2
        obtain rfl : g = s.gr.length := by omega
        have : G' = G := by
          have : (s.gr ++ [G])[s.gr.length]? = some G' := hg
          simpa using this.symm
        subst this
        constructor
        · intro hx
          obtain ⟨v, h1, h2, h3, h4⟩ := (H.drop hk x).1.1 ((hG x).1 hx)
          exact ⟨v, h1, h2, ofin v (by rw [← h2]; exact hx)⟩
        · rintro ⟨v, h1, h2, h3⟩
          by_cases h4 : (v : Int) ∈ G'
          · rw [h2]; exact h4
          · rw [ofout v h4] at h3
            rcases H.gi.ofr v h1 with h5 | h5 <;> omega
    · rcases List.mem_append.1 hG2 with h | h
      · exact H.gi.asc _ h
      · rw [List.mem_singleton] at h; subst h; exact hs
    · rcases List.mem_append.1 hG2 with h | h
      · exact H.gi.ne _ h
      · rw [List.mem_singleton] at h; subst h; intro e; rw [e] at hiG; cases hiG
    · by_cases h : (a : Int) ∈ G
      · obtain ⟨h1, h2, h3⟩ := (hG' a).1 h
        rcases H.succ hd' hl h1 h2 h3 hb hbn with h4 | ⟨h4, h5⟩
        · exact old0 b h4
        · rw [ofin b ((hG' b).2 ⟨hbn, h4, h5⟩)]; omega
      · rw [ofout a h] at h0
        exact old0 b (H.gi.clo a b ha h0 hb hbn)
    · by_cases h : (a : Int) ∈ G
      · obtain ⟨h1, h2, h3⟩ := (hG' a).1 h
        rw [ofin a h]
        constructor
        · intro h4
          have hbG : (b : Int) ∈ G := by
            by_cases h5 : (b : Int) ∈ G
            · exact h5
            · rw [ofout b h5] at h4
              rcases H.gi.ofr b hb with h6 | h6 <;> omega
          obtain ⟨g1, g2, g3⟩ := (hG' b).1 hbG
          exact ⟨(H.back hd' hl h1 h2 h3).trans (H.c1 _ _ _ (last_at W (i, d)) b g1 g2 g3), (H.back hd' hl g1 g2 g3).trans (H.c1 _ _ _ (last_at W (i, d)) a h1 h2 h3)⟩
        · rintro ⟨p1, p2⟩
          rcases H.seg hd' hl h2 h3 p1 with h4 | ⟨h4, h5⟩
          · have := H.gi.pth h4 p2
            rw [h2.2] at this; omega
          · exact ofin b ((hG' b).2 ⟨hb, h4, h5⟩)
      · have ha0 : 0 ≤ s.of a := by rw [ofout a h] at h0; exact h0
        rw [ofout a h, ← H.gi.mutr a b ha hb ha0]
        by_cases h4 : (b : Int) ∈ G
        · rw [ofin b h4, ofneg b h4]
          rcases H.gi.ofr a ha with h5 | h5
          · omega
          · constructor <;> intro <;> omega
        · rw [ofout b h4]
  refine ⟨gi', H.nle, H.inj, fun v hv h => ?_, fun x => ?_, ?_, fun q a b h => ?_, fun q q' a a' b b' h h' hl' => H.wst _ _ _ _ _ _ (snoc_old h) (snoc_old h') hl', fun q a b h v hv ho hle => H.c1 _ _ _ (snoc_old h) v hv ((opo v hv).1 ho).1 hle, fun v hv ho hw => ?_, fun v x j' hv ho hx hjn hh => ?_, fun q a b h => ?_, fun q a b h v hv ho hle hup x j' hx hjn hh hof' => ?_⟩
  · have h1 := H.unv v hv h
    have : ¬ (v : Int) ∈ G := fun h4 => ((hG' v).1 h4).2.1.1 h
    rw [ofout v this]; exact h1
  · show x ∈ s.op.take k ↔ _
    rw [(H.drop hk x).2]
    constructor
    · rintro ⟨v, h1, h2, h3, h4⟩; exact ⟨v, h1, h2, (opo v h1).2 ⟨h3, h4⟩⟩
    · rintro ⟨v, h1, h2, h3⟩; obtain ⟨h4, h5⟩ := (opo v h1).1 h3; exact ⟨v, h1, h2, h4, h5⟩
  · exact List.Pairwise.sublist (List.take_sublist k s.op) H.ops
  · obtain ⟨h1, h2, h3⟩ := H.wop _ _ _ (snoc_old (x := (i, d)) h)
    exact ⟨h1, (opo a h1).2 ⟨h2, wlt h⟩, h3⟩
  · obtain ⟨ho1, ho2⟩ := (opo v hv).1 ho
    obtain ⟨q, a, b, h1, h2, h3⟩ := H.c2 v hv ho1 fun ⟨q, b, h⟩ => by
      rcases last_get h with h1 | ⟨_, h1, _⟩
      · exact hw ⟨q, b, h1⟩
      · subst h1; omega
    rcases last_get h1 with h4 | ⟨_, h4, _⟩
    · exact ⟨q, a, b, h4, h2, h3⟩
    · subst h4; omega
  · obtain ⟨ho1, ho2⟩ := (opo v hv).1 ho
    exact H.dd v x j' hv ho1 hx hjn (hds v x (fun e => by subst e; omega) hh)
  · obtain ⟨h1, v, h2, h3, h4, h5⟩ := H.e1 _ _ _ (snoc_old (x := (i, d)) h)
    have := wlt h
    exact ⟨h1, v, h2, (opo v h2).2 ⟨h3, by omega⟩, h4, h5⟩
  · obtain ⟨ho1, ho2⟩ := (opo v hv).1 ho
    have hof : s.of j' = -1 := by
      by_cases h4 : (j' : Int) ∈ G
      · exact ofneg j' h4
      · rw [ofout j' h4] at hof'; exact hof'
    refine H.e2 _ _ _ (snoc_old (x := (i, d)) h) v hv ho1 hle (fun i' d' h4 => ?_) x j' hx hjn (hds v x (fun e => by subst e; omega) hh) hof
    rcases last_get h4 with h5 | ⟨_, h5, _⟩
    · exact hup i' d' h5
    · subst h5; exact ho2

/-- A node whose mark is lower is left open. -/
theorem TI.pop {E : Gr} {s : TS} {W : Wk} {i d : Nat} (H : TI E s (W ++ [(i, d)])) (hd' : d = (E.getD i []).length) (hl : s.low i < s.num i) :
    ∃ W0 up du, W = W0 ++ [(up, du)] ∧ TI E (s.lower up (min (s.low up) (s.low i))) W := by
  have hiw := H.wop _ _ _ (last_at W (i, d))
  have wlt : ∀ {q a b : Nat}, W[q]? = some (a, b) → s.num a < s.num i := fun h => H.wst _ _ _ _ _ _ (snoc_old h) (last_at W (i, d)) (get_lt h)
  -- i leads to a node in progress that was met before it
  have wit : ∃ k a b : Nat, W[k]? = some (a, b) ∧ Pth E i a := by
    obtain ⟨_, u, h2, h3, h4, h5⟩ := H.e1 _ _ _ (last_at W (i, d))
    by_cases hu : isW (W ++ [(i, d)]) u
    · obtain ⟨q, b, h⟩ := hu
      rcases last_get h with h1 | ⟨_, h1, _⟩
      · exact ⟨q, u, b, h1, h5⟩
      · subst h1; omega
    · obtain ⟨q, a, b, h6, h7, h8⟩ := H.c2 u h2 h3 hu
      rcases last_get h6 with h1 | ⟨_, h1, _⟩
      · exact ⟨q, a, b, h1, h5.trans h8⟩
      · subst h1; omega
  obtain ⟨kz, z, bz, hz, pz⟩ := wit
  have hne : W ≠ [] := fun e => by rw [e] at hz; cases hz
  obtain ⟨W0, ⟨up, du⟩, rfl⟩ : ∃ W0 x, W = W0 ++ [x] := by
    rcases List.eq_nil_or_concat W with h | ⟨W0, x, h⟩
    · exact absurd h hne
    · exact ⟨W0, x, by rw [h, List.concat_eq_append]⟩
  refine ⟨W0, up, du, rfl, ?_⟩
  have hup' : (W0 ++ [(up, du)])[W0.length]? = some (up, du) := last_at _ _
  have hupi := wlt hup'
  have hds : ∀ v x j : Nat, (E.getD v [])[x]? = some (j : Int) → hd (W0 ++ [(up, du)]) v x → hd (W0 ++ [(up, du)] ++ [(i, d)]) v x := fun v x j hx h q b hq => by
    rcases last_get hq with h1 | ⟨_, h1, h2⟩
    · exact h q b h1
    · subst h1; subst h2
      rw [hd']
      rcases Nat.lt_or_ge x (E.getD v []).length with h | h
      · exact h
      · rw [List.getElem?_eq_none h] at hx; cases hx
  have hle : ∀ a, (upN s.low up (min (s.low up) (s.low i))) a ≤ s.low a := by
    intro a
    by_cases e : a = up
    · subst e; rw [upN_at]; omega
    · rw [upN_ne e]; exact Nat.le_refl _
  refine ⟨H.gi, H.nle, H.inj, H.unv, H.opm, H.ops, fun q a b h => H.wop _ _ _ (snoc_old h), fun q q' a a' b b' h h' hl' => H.wst _ _ _ _ _ _ (snoc_old h) (snoc_old h') hl', fun q a b h => H.c1 _ _ _ (snoc_old h), fun v hv ho hw => ?_, fun v x j' hv ho hx hjn hh => H.dd v x j' hv ho hx hjn (hds v x j' hx hh), fun q a b h => ?_, fun q a b h v hv ho hle' hup x j' hx hjn hh hof' => ?_⟩
  · by_cases e : v = i
    · subst e; exact ⟨kz, z, bz, hz, wlt hz, pz⟩
    · obtain ⟨q, a, b, h1, h2, h3⟩ := H.c2 v hv ho fun ⟨q, b, h⟩ => by
        rcases last_get h with h1 | ⟨_, h1, _⟩
        · exact hw ⟨q, b, h1⟩
        · exact e h1
      rcases last_get h1 with h4 | ⟨_, h4, _⟩
      · exact ⟨q, a, b, h4, h2, h3⟩
      · subst h4
        exact ⟨kz, z, bz, hz, by have := wlt hz; show s.num z < s.num v; have h5 : s.num a < s.num v := h2; omega, h3.trans pz⟩
  · obtain ⟨h1, v, h2, h3, h4, h5⟩ := H.e1 _ _ _ (snoc_old (x := (i, d)) h)
    refine ⟨Nat.le_trans (hle a) h1, ?_⟩
    show ∃ v, v < E.length ∧ s.opn v ∧ s.num v = (upN s.low up (min (s.low up) (s.low i))) a ∧ Pth E a v
    by_cases e : a = up
    · subst e
      rw [upN_at]
      by_cases hm : s.low a ≤ s.low i
      · exact ⟨v, h2, h3, by omega, h5⟩
      · obtain ⟨_, u, g2, g3, g4, g5⟩ := H.e1 _ _ _ (last_at (W0 ++ [(a, du)]) (i, d))
        exact ⟨u, g2, g3, by omega, (H.c1 _ _ _ (snoc_old (x := (i, d)) h) i hiw.1 hiw.2.1 (by omega)).trans g5⟩
    · rw [upN_ne e]; exact ⟨v, h2, h3, h4, h5⟩
  · by_cases e : a = up
    · subst e
      show upN s.low a (min (s.low a) (s.low i)) a ≤ s.num j'
      rw [upN_at]
      rcases Nat.lt_or_ge (s.num v) (s.num i) with h1 | h1
      · have hq := H.at_eq (snoc_old (x := (i, d)) h) (snoc_old (x := (i, d)) hup')
        subst hq
        have := H.e2 _ _ _ (snoc_old (x := (i, d)) h) v hv ho hle' (fun i' d' h4 => by
          rcases last_get h4 with h5 | ⟨_, h5, _⟩
          · exact hup i' d' h5
          · subst h5; exact h1) x j' hx hjn (hds v x j' hx hh) hof'
        omega
      · have := H.e2 _ _ _ (last_at (W0 ++ [(a, du)]) (i, d)) v hv ho h1 (fun i' d' h4 => by have := get_lt h4; simp at this) x j' hx hjn (hds v x j' hx hh) hof'
        omega
    · refine Nat.le_trans (hle a) ?_
      refine H.e2 _ _ _ (snoc_old (x := (i, d)) h) v hv ho hle' (fun i' d' h4 => ?_) x j' hx hjn (hds v x j' hx hh) hof'
      rcases last_get h4 with h5 | ⟨hq, h5, _⟩
      · exact hup i' d' h5
      · exfalso
        have h6 : q = W0.length := by simp at hq; omega
        subst h6
        rw [hup'] at h; cases h; exact e rfl
end Go.Proofs.Yteejlibiidiibaa

namespace Go.Proofs.Yteejlibiidiibaa
def TS.init : TS := ⟨fun _ => 0, fun _ => 0, fun _ => -1, [], [], 0⟩
theorem no_get {k i d : Nat} (h : ([] : Wk)[k]? = some (i, d)) : False := by simp at h
theorem TI.start (E : Gr) : TI E TS.init [] := by
  refine ⟨⟨fun _ _ => .inl rfl, fun g G h => (by simp [TS.init] at h), fun G h => (by cases h), fun G h => (by cases h), fun a b _ h => ?_, fun a b _ _ h => ?_⟩, fun _ _ => Nat.le_refl _, fun _ _ _ _ _ h => absurd rfl h, fun _ _ _ => rfl, fun x => ?_, .nil, fun _ _ _ h => (no_get h).elim, fun _ _ _ _ _ _ h => (no_get h).elim, fun _ _ _ h => (no_get h).elim, fun v _ ho => absurd rfl ho.1, fun v _ _ _ ho => absurd rfl ho.1, fun _ _ _ h => (no_get h).elim, fun _ _ _ h => (no_get h).elim⟩
  · simp [TS.init] at h
  · simp [TS.init] at h
  · constructor
    · intro h; cases h
    · rintro ⟨i, _, _, h⟩; exact absurd rfl h.1
/-- Behind a whole visit no node is open. -/
theorem TI.shut {E : Gr} {s : TS} (H : TI E s []) {v : Nat} (hv : v < E.length) (h : s.num v ≠ 0) : 0 ≤ s.of v := by
  rcases H.gi.ofr v hv with h1 | h1
  · obtain ⟨k, i, d, h2, _⟩ := H.c2 v hv ⟨h, h1⟩ (fun ⟨q, b, hq⟩ => no_get hq)
    exact (no_get h2).elim
  · exact h1.1
/-- How much is left to do. -/
def leftN (E : Gr) (num : Nat → Nat) : Nat → Nat
  | 0 => 0
  | k + 1 => leftN E num k + if num k = 0 then (E.getD k []).length + 2 else 0
def leftW (E : Gr) (W : Wk) : Nat := (W.map fun x => (E.getD x.1 []).length - x.2 + 1).sum
def TS.left (E : Gr) (s : TS) (W : Wk) : Nat := leftN E s.num E.length + leftW E W
theorem leftN_mono {E : Gr} {f g : Nat → Nat} {n : Nat} (h : ∀ k, k < n → f k ≠ 0 → g k ≠ 0) : leftN E g n ≤ leftN E f n := by
  induction n with
  | zero => exact Nat.le_refl _
  | succ n ih =>
    have h1 := ih fun k hk => h k (by omega)
    have h2 := h n (by omega)
    unfold leftN
    by_cases e : f n = 0
    · rw [if_pos e]; split <;> omega
    · rw [if_neg e, if_neg (h2 e)]; omega
theorem leftN_push {E : Gr} {f : Nat → Nat} {j x n : Nat} (hj : j < n) (h0 : f j = 0) (hx : x ≠ 0) : leftN E (upN f j x) n + ((E.getD j []).length + 2) ≤ leftN E f n := by
  induction n with
  | zero => omega
  | succ n ih =>
    unfold leftN
    by_cases e : j = n
    · subst e
      rw [upN_at, if_neg hx, if_pos h0]
      have := leftN_mono (E := E) (f := f) (g := upN f j x) (n := j) fun k hk h => by rw [upN_ne (by omega)]; exact h
      omega
    · have := ih (by omega)
      rw [upN_ne (fun h => e h.symm)]
      omega
theorem leftW_snoc (E : Gr) (W : Wk) (i d : Nat) : leftW E (W ++ [(i, d)]) = leftW E W + ((E.getD i []).length - d + 1) := by simp [leftW]
theorem left_advance {E : Gr} {s : TS} {W : Wk} {i d : Nat} (hd' : d < (E.getD i []).length) : s.left E (W ++ [(i, d + 1)]) < s.left E (W ++ [(i, d)]) := by
  unfold TS.left; rw [leftW_snoc, leftW_snoc]; omega
theorem left_lower {E : Gr} {s : TS} {W : Wk} {i x : Nat} : (s.lower i x).left E W = s.left E W := rfl
theorem left_close {E : Gr} {s : TS} {W : Wk} {k : Nat} {G : List Int} : (s.close k G).left E W = s.left E W := rfl
theorem left_pop {E : Gr} {s : TS} {W : Wk} {i d : Nat} : s.left E W < s.left E (W ++ [(i, d)]) := by
  unfold TS.left; rw [leftW_snoc]; omega
theorem left_push {E : Gr} {s : TS} {W : Wk} {j : Nat} (hj : j < E.length) (h0 : s.num j = 0) : (s.begin' j).left E (W ++ [(j, 0)]) < s.left E W := by
  unfold TS.left
  rw [leftW_snoc]
  have := leftN_push (E := E) (f := s.num) (x := s.cnt + 1) hj h0 (by omega)
  show leftN E (upN s.num j (s.cnt + 1)) E.length + _ < _
  omega
theorem set_last {W : Wk} {x y : Nat × Nat} : (W ++ [x]).set W.length y = W ++ [y] := by
  rw [List.set_append_right _ _ (Nat.le_refl _)]; simp
theorem set_last2 {W : Wk} {x y z : Nat × Nat} : (W ++ [x] ++ [z]).set W.length y = W ++ [y] ++ [z] := by
  rw [List.set_append_left _ _ (by simp), set_last]
theorem TI.wnum {E : Gr} {s : TS} {W : Wk} (H : TI E s W) : ∀ k i d : Nat, W[k]? = some (i, d) → k + 1 ≤ s.num i := by
  intro k
  induction k with
  | zero =>
    intro i d h
    obtain ⟨_, h2, _⟩ := H.wop _ _ _ h
    have := h2.1; omega
  | succ k ih =>
    intro i d h
    have hl := get_lt h
    obtain ⟨⟨i', d'⟩, h'⟩ : ∃ x, W[k]? = some x := ⟨_, List.getElem?_eq_getElem (by omega)⟩
    have h1 := ih i' d' h'
    have h2 := H.wst _ _ _ _ _ _ h' h (Nat.lt_succ_self k)
    omega
theorem TI.wlen {E : Gr} {s : TS} {W : Wk} (H : TI E s W) : W.length ≤ s.cnt := by
  rcases Nat.eq_zero_or_pos W.length with h | h
  · omega
  · obtain ⟨⟨i, d⟩, h'⟩ : ∃ x, W[W.length - 1]? = some x := ⟨_, List.getElem?_eq_getElem (by omega)⟩
    have h1 := H.wnum _ _ _ h'
    obtain ⟨h2, _, _⟩ := H.wop _ _ _ h'
    have := H.nle i h2
    omega
end Go.Proofs.Yteejlibiidiibaa
