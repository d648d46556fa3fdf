/-
  Plain: components put in order with a heap.
-/
import Derived.Test.YteejlibiidiibaaU1
namespace Go.Proofs.Yteejlibiidiibaa
/-- The groups, and where each node is. -/
structure GA (E : Gr) (of : Nat → Int) (gr : List (List Int)) : Prop where
  gi : GI E of gr
  all : ∀ i, i < E.length → 0 ≤ of i
def grp (gr : List (List Int)) (g : Nat) : List Int := gr.getD g []
def fst' (gr : List (List Int)) (g : Nat) : Int := (grp gr g).getD 0 0
section
variable {E : Gr} {of : Nat → Int} {gr : List (List Int)}
theorem GA.og (H : GA E of gr) {i : Nat} (hi : i < E.length) : of i = ((of i).toNat : Int) ∧ (of i).toNat < gr.length := by
  have h1 := H.all i hi
  rcases H.gi.ofr i hi with h2 | h2 <;> omega
theorem grp_get {g : Nat} (hg : g < gr.length) : gr[g]? = some (grp gr g) := by simp [grp, hg]
theorem GA.mem (H : GA E of gr) {g : Nat} (hg : g < gr.length) (x : Int) : x ∈ grp gr g ↔ ∃ i : Nat, i < E.length ∧ x = (i : Int) ∧ of i = (g : Int) := H.gi.mem g _ (grp_get hg) x
theorem GA.ofmut (H : GA E of gr) {i j : Nat} (hi : i < E.length) (hj : j < E.length) : (of i).toNat = (of j).toNat ↔ Mut E i j := by
  have h1 := H.og hi
  have h2 := H.og hj
  have h3 := H.gi.mutr i j hi hj (H.all i hi)
  unfold Mut
  rw [← h3]
  omega
theorem GA.cls (H : GA E of gr) {i : Nat} (hi : i < E.length) : grp gr (of i).toNat = cls E i := by
  have h1 := H.og hi
  refine asc_ext (H.gi.asc _ (List.mem_of_getElem? (grp_get h1.2))) (marked_asc _ _) fun x => ?_
  rw [H.mem h1.2, mem_cls]
  constructor
  · rintro ⟨k, hk, rfl, e⟩
    exact ⟨k, rfl, (H.ofmut hi hk).1 (by omega)⟩
  · rintro ⟨k, rfl, hm⟩
    have hk := hm.1.lt.2
    have := (H.ofmut hi hk).2 hm
    have := H.og hk
    exact ⟨k, hk, rfl, by omega⟩
/-- A group's least node. -/
theorem GA.first (H : GA E of gr) {g : Nat} (hg : g < gr.length) : ∃ i : Nat, i < E.length ∧ fst' gr g = (i : Int) ∧ (of i).toNat = g ∧ ∀ j : Nat, j < E.length → (of j).toNat = g → i ≤ j := by
  have hmem := List.mem_of_getElem? (grp_get hg)
  have hne := H.gi.ne _ hmem
  have hasc := H.gi.asc _ hmem
  have hl : 0 < (grp gr g).length := List.length_pos_iff.2 hne
  have e : fst' gr g = (grp gr g)[0] := by simp [fst', hl]
  obtain ⟨i, hi, e2, e3⟩ := (H.mem hg _).1 (List.getElem_mem hl)
  refine ⟨i, hi, by rw [e, e2], by omega, fun j hj e4 => ?_⟩
  have h5 := H.og hj
  have h6 : (j : Int) ∈ grp gr g := (H.mem hg _).2 ⟨j, hj, rfl, by omega⟩
  obtain ⟨k, hk, e7⟩ := List.mem_iff_getElem.1 h6
  rcases Nat.eq_zero_or_pos k with h0 | h0
  · subst h0; rw [e2] at e7; omega
  · have := List.pairwise_iff_getElem.1 hasc 0 k hl hk h0
    rw [e2, e7] at this; omega
theorem GA.first_inj (H : GA E of gr) {g u : Nat} (hg : g < gr.length) (hu : u < gr.length) (e : fst' gr g = fst' gr u) : g = u := by
  obtain ⟨i, _, e1, e2, _⟩ := H.first hg
  obtain ⟨j, _, e3, e4, _⟩ := H.first hu
  have : i = j := by omega
  rw [← e2, ← e4, this]

/-- The edges between groups. -/
def edgeP (E : Gr) (of : Nat → Int) (i : Nat) (l : List Int) : List (Nat × Nat) :=
  l.filterMap fun x => if nodeB E.length x && ((of i).toNat != (of x.toNat).toNat) then some ((of i).toNat, (of x.toNat).toNat) else none
def prs (E : Gr) (of : Nat → Int) (k : Nat) : List (Nat × Nat) := (List.range k).flatMap fun i => edgeP E of i (E.getD i [])
theorem mem_prs {p : Nat × Nat} : p ∈ prs E of E.length ↔ ∃ i j : Nat, i < E.length ∧ j < E.length ∧ (j : Int) ∈ E.getD i [] ∧ (of i).toNat ≠ (of j).toNat ∧ p = ((of i).toNat, (of j).toNat) := by
  unfold prs edgeP
  simp only [List.mem_flatMap, List.mem_range, List.mem_filterMap, Option.ite_none_right_eq_some, Option.some.injEq, Bool.and_eq_true, bne_iff_ne, nodeB_iff]
  constructor
  · rintro ⟨i, hi, x, hx, ⟨⟨h0, h1⟩, h2⟩, rfl⟩
    refine ⟨i, x.toNat, hi, by omega, ?_, h2, rfl⟩
    rwa [Int.toNat_of_nonneg h0]
  · rintro ⟨i, j, hi, hj, hx, h2, rfl⟩
    exact ⟨i, hi, j, hx, ⟨⟨by omega, by omega⟩, by simpa using h2⟩, by simp⟩
def missP (P : List (Nat × Nat)) (g : Nat) : Nat := P.countP fun p => p.1 == g
def usrP (P : List (Nat × Nat)) (g : Nat) : List Int := (P.filter fun p => p.2 == g).map fun p => (p.1 : Int)
theorem missP_snoc (P : List (Nat × Nat)) (p : Nat × Nat) (g : Nat) : missP (P ++ [p]) g = if g = p.1 then missP P g + 1 else missP P g := by
  unfold missP
  rw [List.countP_append]
  by_cases e : g = p.1
  · subst e; simp
  · simp [e, Ne.symm e]
theorem usrP_snoc (P : List (Nat × Nat)) (p : Nat × Nat) (g : Nat) : usrP (P ++ [p]) g = if g = p.2 then usrP P g ++ [(p.1 : Int)] else usrP P g := by
  unfold usrP
  rw [List.filter_append, List.map_append]
  by_cases e : g = p.2
  · subst e; simp
  · simp [e, Ne.symm e]
theorem prs_succ (k : Nat) : prs E of (k + 1) = prs E of k ++ edgeP E of k (E.getD k []) := by
  unfold prs
  rw [List.range_succ, List.flatMap_append]; simp
theorem edgeP_snoc (i : Nat) (l : List Int) (x : Int) : edgeP E of i (l ++ [x]) = edgeP E of i l ++ (if nodeB E.length x && ((of i).toNat != (of x.toNat).toNat) then [((of i).toNat, (of x.toNat).toNat)] else []) := by
  unfold edgeP
  rw [List.filterMap_append]
  congr 1
  simp only [List.filterMap_cons, List.filterMap_nil]
  split <;> simp_all

/-- What the loop over the heap keeps. -/
structure KI (E : Gr) (of : Nat → Int) (gr : List (List Int)) (dl : List Nat) (miss : Nat → Nat) (h : List Int) : Prop where
  lt : ∀ g, g ∈ dl → g < gr.length
  nd : dl.Nodup
  cl : ∀ g, g ∈ dl → ∀ p, p ∈ prs E of E.length → p.1 = g → p.2 ∈ dl
  ms : ∀ g, g < gr.length → miss g = (prs E of E.length).countP fun p => p.1 == g && decide (p.2 ∉ dl)
  hp : ∀ x, x ∈ h ↔ ∃ g, g < gr.length ∧ g ∉ dl ∧ miss g = 0 ∧ x = fst' gr g
  hn : h.Nodup
  topo : Topo E (dl.map (grp gr))
theorem GA.inn (H : GA E of gr) {dl : List Nat} (hl : ∀ g, g ∈ dl → g < gr.length) {i : Nat} (hi : i < E.length) : inn (dl.map (grp gr)) i ↔ (of i).toNat ∈ dl := by
  have h1 := H.og hi
  constructor
  · rintro ⟨C, hC, hm⟩
    obtain ⟨g, hg, rfl⟩ := List.mem_map.1 hC
    obtain ⟨k, _, e, e2⟩ := (H.mem (hl g hg) _).1 hm
    have : i = k := by omega
    subst this
    rw [e2, Int.toNat_natCast]; exact hg
  · intro h
    exact ⟨_, List.mem_map.2 ⟨_, h, rfl⟩, (H.mem h1.2 _).2 ⟨i, hi, rfl, h1.1⟩⟩
theorem KI.zero {dl : List Nat} {miss : Nat → Nat} {h : List Int} (K : KI E of gr dl miss h) (H : GA E of gr) {j : Nat} (hj : j < E.length) (hr : Rdy E (inn (dl.map (grp gr))) j) : miss (of j).toNat = 0 := by
  rw [K.ms _ (H.og hj).2, List.countP_eq_zero]
  intro p hp hc
  simp only [Bool.and_eq_true, beq_iff_eq, decide_eq_true_eq] at hc
  obtain ⟨i, k, hi, hk, he, hne, rfl⟩ := mem_prs.1 hp
  have hm := (H.ofmut hi hj).1 hc.1
  rcases hr k (hm.2.step he hk) with h1 | h1
  · exact hc.2 ((H.inn K.lt hk).1 h1)
  · have : Mut E i k := ⟨(Pth.refl hi).step he hk, h1.trans hm.2⟩
    exact hne ((H.ofmut hi hk).2 this)
/-- What comes out of the heap comes next. -/
theorem KI.pop {dl : List Nat} {miss : Nat → Nat} {h zs : List Int} {x : Int} (K : KI E of gr dl miss h) (H : GA E of gr) (hp : h.Perm (x :: zs)) (hx : ∀ y, y ∈ h → x ≤ y) :
    ∃ i : Nat, i < E.length ∧ x = (i : Int) ∧ (of i).toNat ∉ dl ∧ miss (of i).toNat = 0 ∧ x = fst' gr (of i).toNat ∧ TopoAt E (dl.map (grp gr)) (grp gr (of i).toNat) := by
  have hxh : x ∈ h := hp.mem_iff.2 (by simp)
  obtain ⟨g, hg, hgd, hm, rfl⟩ := (K.hp x).1 hxh
  obtain ⟨i, hi, e1, e2, hmin⟩ := H.first hg
  subst e2
  refine ⟨i, hi, e1, hgd, hm, rfl, i, hi, H.cls hi, fun h => hgd ((H.inn K.lt hi).1 h), fun k hk => ?_, fun j hj hjd hr => ?_⟩
  · have hz : ∀ p, p ∈ prs E of E.length → p.1 = (of i).toNat → p.2 ∈ dl := fun p hp e => by
      have h1 := K.ms _ hg
      rw [hm] at h1
      have h2 := (List.countP_eq_zero.1 h1.symm) p hp
      simp only [Bool.and_eq_true, beq_iff_eq, decide_eq_true_eq, not_and, Classical.not_not] at h2
      exact h2 e
    have h3 : (of k).toNat ∈ dl ∨ (of k).toNat = (of i).toNat := by
      refine hk.closed (P := fun k => (of k).toNat ∈ dl ∨ (of k).toNat = (of i).toNat) (fun _ => .inr rfl) ?_
      intro a b ha h hb hbn
      by_cases e : (of a).toNat = (of b).toNat
      · rw [← e]; exact h
      · have hpP := mem_prs.2 ⟨a, b, ha, hbn, hb, e, rfl⟩
        rcases h with h | h
        · exact .inl (K.cl _ h _ hpP rfl)
        · exact .inl (hz _ hpP h)
    rcases h3 with h3 | h3
    · exact .inl ((H.inn K.lt hk.lt.2).2 h3)
    · exact .inr ((H.ofmut hk.lt.2 hi).1 h3).1
  · have hjn : j < E.length := by omega
    have h1 := K.zero H hjn hr
    have h2 : fst' gr (of j).toNat ∈ h := (K.hp _).2 ⟨_, (H.og hjn).2, fun h => hjd ((H.inn K.lt hjn).2 h), h1, rfl⟩
    have h3 := hx _ h2
    obtain ⟨q, _, e3, _, hq⟩ := H.first (H.og hjn).2
    have := hq j hjn rfl
    omega
/-- In the midst of a group's users. -/
structure KU (E : Gr) (of : Nat → Int) (gr : List (List Int)) (dl : List Nat) (g : Nat) (miss : Nat → Nat) (h rem : List Int) : Prop where
  ms : ∀ u, u < gr.length → miss u = ((prs E of E.length).countP fun p => p.1 == u && decide (p.2 ∉ dl ++ [g])) + rem.count (u : Int)
  hp : ∀ x, x ∈ h ↔ ∃ u, u < gr.length ∧ u ∉ dl ++ [g] ∧ miss u = 0 ∧ x = fst' gr u
  hn : h.Nodup
  rm : ∀ x, x ∈ rem → ∃ u : Nat, x = (u : Int) ∧ u < gr.length ∧ u ∉ dl ++ [g]
theorem KU.start {dl : List Nat} {miss : Nat → Nat} {h zs : List Int} {g : Nat} (K : KI E of gr dl miss h) (H : GA E of gr) (hg : g < gr.length) (hgd : g ∉ dl) (hm : miss g = 0) (hp : h.Perm (fst' gr g :: zs)) : KU E of gr dl g miss zs (usrP (prs E of E.length) g) := by
  have hnd := hp.nodup_iff.1 K.hn
  rw [List.nodup_cons] at hnd
  refine ⟨fun u hu => ?_, fun x => ?_, hnd.2, fun x hx => ?_⟩
  · rw [K.ms u hu]
    unfold usrP
    rw [List.count_eq_countP, List.countP_map, List.countP_filter]
    have key : ∀ (P : List (Nat × Nat)), P.countP (fun p => p.1 == u && decide (p.2 ∉ dl)) = P.countP (fun p => p.1 == u && decide (p.2 ∉ dl ++ [g])) + P.countP (fun p => ((fun x => x == (u : Int)) ∘ fun p : Nat × Nat => (p.1 : Int)) p && p.2 == g) := by
      intro P
      induction P with
      | nil => rfl
      | cons p P ih =>
        rw [List.countP_cons, List.countP_cons, List.countP_cons, ih]
        have e1 : (((fun x => x == (u : Int)) ∘ fun p : Nat × Nat => (p.1 : Int)) p) = (p.1 == u) := by
          rw [Bool.eq_iff_iff]; simp; omega
        rw [e1]
        by_cases h1 : p.1 = u
        · by_cases h2 : p.2 = g
          · simp [h1, h2, hgd]; omega
          · by_cases h3 : p.2 ∈ dl
            · simp [h1, h2, h3]
            · simp [h1, h2, h3]; omega
        · simp [h1]
    exact key _
  · have h1 : x ∈ h ↔ x = fst' gr g ∨ x ∈ zs := by rw [hp.mem_iff, List.mem_cons]
    constructor
    · intro hx
      obtain ⟨u, h2, h3, h4, h5⟩ := (K.hp x).1 (h1.2 (.inr hx))
      refine ⟨u, h2, ?_, h4, h5⟩
      rw [List.mem_append, List.mem_singleton]
      rintro (h6 | h6)
      · exact h3 h6
      · subst h6; exact hnd.1 (h5 ▸ hx)
    · rintro ⟨u, h2, h3, h4, h5⟩
      rw [List.mem_append, List.mem_singleton] at h3
      rcases h1.1 ((K.hp x).2 ⟨u, h2, fun h => h3 (.inl h), h4, h5⟩) with h6 | h6
      · exact absurd (H.first_inj h2 hg (h5.symm.trans h6)) fun h => h3 (.inr h)
      · exact h6
  · unfold usrP at hx
    obtain ⟨p, hp2, rfl⟩ := List.mem_map.1 hx
    rw [List.mem_filter, beq_iff_eq] at hp2
    obtain ⟨i, k, hi, hk, he, hne, rfl⟩ := mem_prs.1 hp2.1
    refine ⟨_, rfl, (H.og hi).2, ?_⟩
    rw [List.mem_append, List.mem_singleton]
    rintro (h6 | h6)
    · have := K.cl _ h6 _ hp2.1 rfl
      rw [hp2.2] at this; exact hgd this
    · exact hne (h6.trans hp2.2.symm)
def decN (f : Nat → Nat) (u : Nat) : Nat → Nat := fun m => if m = u then f m - 1 else f m
theorem KU.pos {dl : List Nat} {miss : Nat → Nat} {h rem : List Int} {g u : Nat} (K : KU E of gr dl g miss h ((u : Int) :: rem)) : u < gr.length ∧ 0 < miss u := by
  obtain ⟨u', e, hu, _⟩ := K.rm (u : Int) (by simp)
  have : u = u' := by omega
  subst this
  refine ⟨hu, ?_⟩
  rw [K.ms u hu]; simp; omega
theorem KU.ms_step {dl : List Nat} {miss : Nat → Nat} {h rem : List Int} {g u : Nat} (K : KU E of gr dl g miss h ((u : Int) :: rem)) : ∀ m, m < gr.length → decN miss u m = ((prs E of E.length).countP fun p => p.1 == m && decide (p.2 ∉ dl ++ [g])) + rem.count (m : Int) := by
  intro m hm
  have h1 := K.ms m hm
  unfold decN
  by_cases e : m = u
  · subst e
    rw [if_pos rfl, h1]; simp
  · rw [if_neg e, h1]
    have : ¬ (u : Int) = (m : Int) := by omega
    simp [List.count_cons, this]
theorem KU.keep {dl : List Nat} {miss : Nat → Nat} {h rem : List Int} {g u : Nat} (K : KU E of gr dl g miss h ((u : Int) :: rem)) (h0 : decN miss u u ≠ 0) : KU E of gr dl g (decN miss u) h rem := by
  have hp := K.pos
  refine ⟨K.ms_step, fun x => ?_, K.hn, fun x hx => K.rm x (List.mem_cons_of_mem _ hx)⟩
  rw [K.hp]
  constructor
  · rintro ⟨m, h1, h2, h3, h4⟩
    refine ⟨m, h1, h2, ?_, h4⟩
    unfold decN
    split <;> omega
  · rintro ⟨m, h1, h2, h3, h4⟩
    refine ⟨m, h1, h2, ?_, h4⟩
    by_cases e : m = u
    · subst e; exact absurd h3 h0
    · unfold decN at h3; rw [if_neg e] at h3; exact h3
theorem KU.push {dl : List Nat} {miss : Nat → Nat} {h h' rem : List Int} {g u : Nat} (K : KU E of gr dl g miss h ((u : Int) :: rem)) (H : GA E of gr) (h0 : decN miss u u = 0) (hp : h'.Perm (fst' gr u :: h)) : KU E of gr dl g (decN miss u) h' rem := by
  have hpo := K.pos
  obtain ⟨u', e, _, hnd⟩ := K.rm (u : Int) (by simp)
  have : u = u' := by omega
  subst this
  refine ⟨K.ms_step, fun x => ?_, ?_, fun x hx => K.rm x (List.mem_cons_of_mem _ hx)⟩
  · rw [hp.mem_iff, List.mem_cons, K.hp]
    constructor
    · rintro (rfl | ⟨m, h1, h2, h3, h4⟩)
      · exact ⟨u, hpo.1, hnd, h0, rfl⟩
      · refine ⟨m, h1, h2, ?_, h4⟩
        unfold decN; split <;> omega
    · rintro ⟨m, h1, h2, h3, h4⟩
      by_cases e : m = u
      · subst e; exact .inl h4
      · refine .inr ⟨m, h1, h2, ?_, h4⟩
        unfold decN at h3; rw [if_neg e] at h3; exact h3
  · rw [hp.nodup_iff, List.nodup_cons]
    refine ⟨fun hx => ?_, K.hn⟩
    obtain ⟨m, h1, _, h3, h4⟩ := (K.hp _).1 hx
    have := H.first_inj hpo.1 h1 h4
    subst this; omega
theorem KU.finish {dl : List Nat} {miss m2 : Nat → Nat} {h h2 : List Int} {g : Nat} (K0 : KI E of gr dl m2 h2) (K : KU E of gr dl g miss h []) (hg : g < gr.length) (hgd : g ∉ dl) (hm : m2 g = 0) (hT : TopoAt E (dl.map (grp gr)) (grp gr g)) : KI E of gr (dl ++ [g]) miss h := by
  refine ⟨fun q hq => ?_, ?_, fun q hq p hp e => ?_, fun u hu => ?_, K.hp, K.hn, ?_⟩
  · rcases List.mem_append.1 hq with h | h
    · exact K0.lt q h
    · rw [List.mem_singleton] at h; subst h; exact hg
  · rw [List.nodup_append]
    exact ⟨K0.nd, by simp, fun a ha b hb e => by rw [List.mem_singleton] at hb; subst hb; subst e; exact hgd ha⟩
  · rw [List.mem_append]
    left
    rcases List.mem_append.1 hq with h | h
    · exact K0.cl q h p hp e
    · rw [List.mem_singleton] at h; subst h
      have h1 := K0.ms _ hg
      rw [hm] at h1
      have h2 := (List.countP_eq_zero.1 h1.symm) p hp
      simp only [Bool.and_eq_true, beq_iff_eq, decide_eq_true_eq, not_and, Classical.not_not] at h2
      exact h2 e
  · rw [K.ms u hu]; simp
  · rw [List.map_append]
    exact K0.topo.snoc hT
theorem KI.done {dl : List Nat} {miss : Nat → Nat} (K : KI E of gr dl miss []) (H : GA E of gr) : ∀ i, i < E.length → inn (dl.map (grp gr)) i := by
  intro i hi
  apply Classical.byContradiction
  intro hno
  obtain ⟨j, hj, hjd, hr⟩ := Rdy.some hi hno
  have h1 := K.zero H hj hr
  have h2 : fst' gr (of j).toNat ∈ ([] : List Int) := (K.hp _).2 ⟨_, (H.og hj).2, fun h => hjd ((H.inn K.lt hj).2 h), h1, rfl⟩
  cases h2
end
end Go.Proofs.Yteejlibiidiibaa
