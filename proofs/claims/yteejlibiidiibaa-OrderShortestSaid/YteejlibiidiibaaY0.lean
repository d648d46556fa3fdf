/-
  Plain: places of nodes in the components; cycles.
-/
import Derived.Test.YteejlibiidiibaaX1
namespace Go.Proofs.Yteejlibiidiibaa
/-- The places that stand once i components and k nodes of the next one have been seen. -/
def PlI (out : Gr) (i k : Nat) (f : Nat → Int) : Prop := ∀ m : Nat,
  (f m = 0 ∧ ¬ inn (out.take i) m ∧ (m : Int) ∉ (out.getD i []).take k) ∨ (∃ (t : Nat) (C : List Int), t < i ∧ out[t]? = some C ∧ (m : Int) ∈ C ∧ f m = (t : Int) + 1) ∨ ((m : Int) ∈ (out.getD i []).take k ∧ f m = (i : Int) + 1)
theorem inn_take {out : Gr} {i m : Nat} : inn (out.take i) m ↔ ∃ (t : Nat) (C : List Int), t < i ∧ out[t]? = some C ∧ (m : Int) ∈ C := by
  constructor
  · rintro ⟨C, hC, hm⟩
    obtain ⟨t, ht, e⟩ := List.mem_iff_getElem.1 hC
    rw [List.length_take] at ht
    refine ⟨t, C, by omega, ?_, hm⟩
    rw [List.getElem_take] at e
    rw [List.getElem?_eq_getElem (by omega), e]
  · rintro ⟨t, C, ht, hC, hm⟩
    refine ⟨C, ?_, hm⟩
    rw [List.mem_iff_getElem?]
    exact ⟨t, by rw [List.getElem?_take, if_pos ht, hC]⟩
theorem PlI.start (out : Gr) : PlI out 0 0 fun _ => 0 := fun m => .inl ⟨rfl, by rintro ⟨C, hC, _⟩; simp at hC, by simp⟩
theorem Topo.at {E : Gr} {out : Gr} (h : Topo E out) {t : Nat} (ht : t < out.length) : ∃ i, i < E.length ∧ out[t] = cls E i ∧ ¬ inn (out.take t) i ∧ Rdy E (inn (out.take t)) i := by
  obtain ⟨i, h1, h2, h3, h4, _⟩ := h t _ (List.getElem?_eq_getElem ht)
  exact ⟨i, h1, h2, h3, h4⟩
theorem Topo.elem {E : Gr} {out : Gr} (h : Topo E out) {i k : Nat} (hi : i < out.length) (hk : k < out[i].length) {f : Nat → Int} (hf : PlI out i k f) :
    ∃ y : Nat, out[i][k] = (y : Int) ∧ y < E.length ∧ f y = 0 ∧ PlI out i (k + 1) (fun m => if m = y then (i : Int) + 1 else f m) := by
  obtain ⟨j, hj, hC, hn, _⟩ := h.at hi
  have hg : out.getD i [] = out[i] := by simp [List.getD, hi]
  obtain ⟨y, hy, hM⟩ := mem_cls.1 (show out[i][k] ∈ cls E j by rw [← hC]; exact List.getElem_mem hk)
  have hno : ¬ inn (out.take i) y := fun h5 => hn ((h.take i).closed hM.symm h5)
  have hasc : out[i].Pairwise (· < ·) := by rw [hC]; exact marked_asc _ _
  have hno2 : (y : Int) ∉ out[i].take k := by
    intro h5
    obtain ⟨q, hq, e⟩ := List.mem_iff_getElem.1 h5
    have hq2 : q < k ∧ q < out[i].length := by rw [List.length_take] at hq; omega
    rw [List.getElem_take, ← hy] at e
    have := List.pairwise_iff_getElem.1 hasc q k hq2.2 hk hq2.1
    omega
  have hst : out[i].take (k + 1) = out[i].take k ++ [(y : Int)] := by rw [List.take_succ_eq_append_getElem hk, hy]
  refine ⟨y, hy, hM.1.lt.2, ?_, fun m => ?_⟩
  · rcases hf y with ⟨h5, _⟩ | ⟨t, C, h5, h6, h7, _⟩ | ⟨h5, _⟩
    · exact h5
    · exact absurd (inn_take.2 ⟨t, C, h5, h6, h7⟩) hno
    · rw [hg] at h5; exact absurd h5 hno2
  · rw [hg, hst]
    by_cases hmy : m = y
    · subst hmy
      exact .inr (.inr ⟨by simp, by simp⟩)
    · rcases hf m with ⟨h5, h6, h7⟩ | ⟨t, C, h5, h6, h7, h8⟩ | ⟨h5, h6⟩
      · rw [hg] at h7
        refine .inl ⟨by simp [hmy, h5], h6, ?_⟩
        rw [List.mem_append, List.mem_singleton]
        rintro (h8 | h8)
        · exact h7 h8
        · exact hmy (by omega)
      · exact .inr (.inl ⟨t, C, h5, h6, h7, by simp [hmy, h8]⟩)
      · rw [hg] at h5
        exact .inr (.inr ⟨by simp [h5], by simp [hmy, h6]⟩)
theorem PlI.up {out : Gr} {i : Nat} {f : Nat → Int} (hi : i < out.length) (hf : PlI out i out[i].length f) : PlI out (i + 1) 0 f := by
  have hg : out.getD i [] = out[i] := by simp [List.getD, hi]
  intro m
  rcases hf m with ⟨h5, h6, h7⟩ | ⟨t, C, h5, h6, h7, h8⟩ | ⟨h5, h6⟩
  · rw [hg, List.take_length] at h7
    refine .inl ⟨h5, ?_, by simp⟩
    rw [inn_take] at h6 ⊢
    rintro ⟨t, C, g1, g2, g3⟩
    by_cases e : t = i
    · subst e
      rw [List.getElem?_eq_getElem hi] at g2
      cases g2
      exact h7 g3
    · exact h6 ⟨t, C, by omega, g2, g3⟩
  · exact .inr (.inl ⟨t, C, by omega, h6, h7, h8⟩)
  · rw [hg, List.take_length] at h5
    exact .inr (.inl ⟨i, _, by omega, List.getElem?_eq_getElem hi, h5, h6⟩)
theorem Topo.less {E : Gr} {out : Gr} (h : Topo E out) {i k : Nat} (hi : i < out.length) (hk : k + 1 < out[i].length) : out[i][k] < out[i][k + 1] := by
  obtain ⟨j, hj, hC, hn, _⟩ := h.at hi
  have hasc : out[i].Pairwise (· < ·) := by rw [hC]; exact marked_asc _ _
  exact List.pairwise_iff_getElem.1 hasc k (k + 1) (by omega) hk (by omega)
theorem Topo.one {E : Gr} {out : Gr} (h : Topo E out) {t t' : Nat} {C C' : List Int} (h1 : out[t]? = some C) (h2 : out[t']? = some C') {m : Nat} (m1 : (m : Int) ∈ C) (m2 : (m : Int) ∈ C') : t = t' := by
  have key : ∀ {t t' : Nat} {C C' : List Int}, out[t]? = some C → out[t']? = some C' → (m : Int) ∈ C → (m : Int) ∈ C' → ¬ t < t' := by
    intro t t' C C' h1 h2 m1 m2 hlt
    obtain ⟨j, hj, hC, hn, _⟩ := h t' _ h2
    subst hC
    obtain ⟨y, hy, hM⟩ := mem_cls.1 m2
    have : y = m := by omega
    subst this
    exact hn ((h.take t').closed hM.symm (inn_take.2 ⟨t, C, hlt, h1, m1⟩))
  have := key h1 h2 m1 m2
  have := key h2 h1 m2 m1
  omega
def sumL (l : Gr) : Nat := (l.map List.length).sum
theorem sumL_snoc (l : Gr) (C : List Int) : sumL (l ++ [C]) = sumL l + C.length := by simp [sumL]
theorem Topo.sum {E : Gr} {out : Gr} (h : Topo E out) : ∀ t, t ≤ out.length → sumL (out.take t) = cnt E.length (dnB (out.take t)) := by
  intro t
  induction t with
  | zero =>
    intro _
    have : cnt E.length (dnB (out.take 0)) = 0 := by
      unfold cnt
      rw [List.countP_eq_zero]
      intro a _ h5
      obtain ⟨C, hC, _⟩ := dnB_iff.1 h5
      simp at hC
    rw [this]; rfl
  | succ t ih =>
    intro ht
    obtain ⟨i, hi, hC, hn, _⟩ := h t _ (List.getElem?_eq_getElem (by omega))
    rw [List.take_succ_eq_append_getElem (by omega), sumL_snoc, ih (by omega), hC, TopoAt.cnt hn fun k j hm hk => (h.take t).closed hm hk]
theorem Topo.total {E : Gr} {out : Gr} (h : Topo E out) (ha : ∀ i, i < E.length → inn out i) : sumL out = E.length := by
  have h1 := h.sum out.length (Nat.le_refl _)
  rw [List.take_length] at h1
  rw [h1]
  unfold cnt
  rw [List.countP_eq_length.2 fun a ha' => dnB_iff.2 (ha a (List.mem_range.1 ha')), List.length_range]
theorem sumL_take {out : Gr} {i : Nat} (hi : i < out.length) : sumL (out.take (i + 1)) = sumL (out.take i) + out[i].length := by
  rw [List.take_succ_eq_append_getElem hi, sumL_snoc]
theorem sumL_le {out : Gr} (i : Nat) : sumL (out.take i) ≤ sumL out := by
  have : sumL out = sumL (out.take i) + sumL (out.drop i) := by
    unfold sumL; rw [← List.sum_append, ← List.map_append, List.take_append_drop]
  omega
/-- An edge's ends and their places. -/
theorem Topo.edge {E : Gr} {out : Gr} (h : Topo E out) (ha : ∀ i, i < E.length → inn out i) {f : Nat → Int} (hf : PlI out out.length 0 f) {i k : Nat} (hi : i < E.length) (hk : k < E.length) (hik : (k : Int) ∈ E[i]) :
    f k < f i ∨ (f k = f i ∧ Pth E k i) := by
  have hP : Pth E i k := (Pth.refl hi).step (by simpa [List.getD, hi] using hik) hk
  have hat : ∀ m, m < E.length → ∃ (t : Nat) (C : List Int), t < out.length ∧ out[t]? = some C ∧ (m : Int) ∈ C ∧ f m = (t : Int) + 1 := by
    intro m hm
    have h1 := ha m hm
    rcases hf m with ⟨_, h6, _⟩ | h5 | ⟨h5, _⟩
    · rw [List.take_length] at h6; exact absurd h1 h6
    · exact h5
    · simp at h5
  obtain ⟨t, C, ht, hC, hm, e⟩ := hat i hi
  obtain ⟨t', C', ht', hC', hm', e'⟩ := hat k hk
  obtain ⟨j, hj, rfl, hn, hR, _⟩ := h t _ hC
  obtain ⟨i', hi', hM⟩ := mem_cls.1 hm
  have : i' = i := by omega
  subst this
  rcases hR k (hM.1.trans hP) with h5 | h5
  · obtain ⟨t2, C2, g1, g2, g3⟩ := inn_take.1 h5
    have := h.one g2 hC' g3 hm'
    left; omega
  · have hMk : Mut E j k := ⟨hM.1.trans hP, h5⟩
    have := h.one hC hC' (mem_cls.2 ⟨k, rfl, hMk⟩) hm'
    exact .inr ⟨by omega, h5.trans hM.1⟩

/-! ### Cycles -/
theorem recB_one {E : Gr} {k : Nat} (hk : k < E.length) : recB E [(k : Int)] = true ↔ (k : Int) ∈ E.getD k [] := by
  simp only [recB, List.any_cons, List.any_nil, Bool.or_false, badB, nodeB_nat, hk, decide_true, Bool.true_and, Int.toNat_natCast, List.any_eq_true, List.mem_singleton, Bool.and_eq_true, decide_eq_true_eq]
  constructor
  · rintro ⟨x, h1, _, rfl⟩; exact h1
  · intro h; exact ⟨_, h, by simp [nodeB_nat, hk], rfl⟩
theorem nx_rec {E : Gr} {k : Nat} (hk : k < E.length) (h : nx E k k < 0) : recB E [(k : Int)] = false := by
  cases hb : recB E [(k : Int)]
  · rfl
  · have h1 := (recB_one hk).1 hb
    have := nx_cyc.2 ⟨k, h1, hk, Pth.refl hk⟩
    omega
/-- Without a cycle each component is one node. -/
theorem cls_one {E : Gr} {i : Nat} (hi : i < E.length) (h : ∀ i, i < E.length → nx E i i < 0) : cls E i = [(i : Int)] := by
  refine asc_ext (marked_asc _ _) (by simp) fun x => ?_
  rw [mem_cls, List.mem_singleton]
  constructor
  · rintro ⟨k, rfl, hM⟩
    by_cases e : i = k
    · rw [e]
    · exfalso
      obtain ⟨d, hd⟩ := hM.1.wn
      have hd1 : Wn E (d + 1) i k := hd.up
      rcases hd1.left with ⟨h1, _⟩ | ⟨j, h1, h2, h3⟩
      · exact e h1
      · have := nx_cyc.2 ⟨j, h1, h2, h3.pth.trans hM.2⟩
        have := h i hi
        omega
  · rintro rfl; exact ⟨i, rfl, Mut.refl hi⟩
/-- What the law asks of a cycle. -/
structure CyW (E : Gr) (xs : List Int) : Prop where
  node : ∀ x ∈ xs, ∃ y : Nat, x = (y : Int) ∧ y < E.length
  new : ∀ i (h : i < xs.length), xs[i] ∉ xs.take i
  edge : ∀ i (h : i < xs.length) (h2 : (i + 1) % xs.length < xs.length), ∀ y : Nat, xs[i] = (y : Int) → xs[(i + 1) % xs.length] ∈ E.getD y []
  low : ∀ h : 0 < xs.length, ∀ k : Nat, (k : Int) < xs[0] → nx E k k < 0
theorem ItI.all {E : Gr} {tg L : Nat} (h0 : 0 ≤ nx E tg tg) (hno : ∀ t, 0 < t → t < L → it E tg t ≠ tg) : ∀ t, 0 < t → t ≤ L → ItI E tg t := by
  intro t
  induction t with
  | zero => intro h _; omega
  | succ t ih =>
    intro _ hL
    by_cases ht : t = 0
    · subst ht; exact ItI.start h0
    · exact ((ih (by omega) (by omega)).next (hno t (by omega) (by omega))).1
theorem it_step {E : Gr} {tg L : Nat} (h0 : 0 ≤ nx E tg tg) (hno : ∀ t, 0 < t → t < L → it E tg t ≠ tg) {t : Nat} (ht : t < L) : ((it E tg (t + 1) : Nat) : Int) ∈ E.getD (it E tg t) [] ∧ it E tg (t + 1) < E.length := by
  have hn : nx E tg (it E tg t) = ((it E tg (t + 1) : Nat) : Int) := by
    by_cases e : t = 0
    · subst e
      rcases nx_cases E tg tg with h1 | ⟨j, h1, _⟩
      · omega
      · show nx E tg tg = ((nx E tg tg).toNat : Int)
        omega
    · exact ((ItI.all h0 hno t (by omega) (by omega)).next (hno t (by omega) ht)).2.1
  rcases nx_cases E tg (it E tg t) with h1 | ⟨j, h1, h2, h3, _⟩
  · omega
  · have : it E tg (t + 1) = j := by omega
    rw [this]; exact ⟨h3, h2⟩
theorem sd_fall {E : Gr} {tg L : Nat} (h0 : 0 ≤ nx E tg tg) (hno : ∀ t, 0 < t → t < L → it E tg t ≠ tg) : ∀ d t, 0 < t → t + d < L → sd E tg (it E tg (t + d)) + (d : Int) ≤ sd E tg (it E tg t) := by
  intro d
  induction d with
  | zero => intro t _ _; simp
  | succ d ih =>
    intro t h1 h2
    have h3 := ih t h1 (by omega)
    have h4 := ((ItI.all h0 hno (t + d) (by omega) (by omega)).next (hno (t + d) (by omega) (by omega))).2.2
    have : t + (d + 1) = t + d + 1 := by omega
    rw [this]
    omega
theorem it_new {E : Gr} {tg L : Nat} (h0 : 0 ≤ nx E tg tg) (hno : ∀ t, 0 < t → t < L → it E tg t ≠ tg) {s t : Nat} (hst : s < t) (ht : t < L) : it E tg s ≠ it E tg t := by
  intro e
  by_cases hs : s = 0
  · subst hs; exact hno t (by omega) ht e.symm
  · have := sd_fall h0 hno (t - s) s (by omega) (by omega)
    rw [show s + (t - s) = t by omega, ← e] at this
    omega
theorem itL_get {E : Gr} {tg L t : Nat} (h : t < (itL E tg L).length) : (itL E tg L)[t] = ((it E tg t : Nat) : Int) := by simp [itL]
theorem CyR.law {E : Gr} {xs : List Int} (h : CyR E xs) : (xs = [] ∧ ∀ i, i < E.length → nx E i i < 0) ∨ (0 < xs.length ∧ CyW E xs) := by
  rcases h with h | ⟨tg, L, htg, h0, hlow, hL, hit, hno, rfl⟩
  · exact .inl h
  · refine .inr ⟨by rw [itL_len]; exact hL, ⟨fun x hx => ?_, fun i hi => ?_, fun i hi h2 y hy => ?_, fun hp k hk => ?_⟩⟩
    · obtain ⟨t, ht, rfl⟩ := List.mem_iff_getElem.1 hx
      rw [itL_get]
      rw [itL_len] at ht
      refine ⟨_, rfl, ?_⟩
      by_cases e : t = 0
      · subst e; exact htg
      · exact (ItI.all h0 hno t (by omega) (by omega)).lt
    · intro hm
      obtain ⟨s, hs, e⟩ := List.mem_iff_getElem.1 hm
      rw [List.length_take, itL_len] at hs
      rw [itL_len] at hi
      rw [List.getElem_take, itL_get, itL_get] at e
      exact it_new h0 hno (s := s) (t := i) (by omega) hi (by omega)
    · rw [itL_get] at hy
      obtain rfl : it E tg i = y := by omega
      rw [itL_get]
      simp only [itL_len] at hi h2 ⊢
      have h3 := (it_step h0 hno hi).1
      by_cases e : i + 1 = L
      · rw [e, Nat.mod_self]
        rw [e, hit] at h3
        exact h3
      · rw [Nat.mod_eq_of_lt (by omega)]
        exact h3
    · rw [itL_get] at hk
      exact hlow k (by have : it E tg 0 = tg := rfl
                       omega)
end Go.Proofs.Yteejlibiidiibaa
