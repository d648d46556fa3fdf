/-
  Plain: distances by a queue.
-/
import Derived.Test.YteejlibiidiibaaV3
import Derived.Test.YteejlibiidiibaaU4
namespace Go.Proofs.Yteejlibiidiibaa
/-- The edges turned round, up to a row's head. -/
structure BK (E : Gr) (f : Nat → List Int) (i : Nat) (l : List Int) : Prop where
  len : ∀ u, u < E.length → (f u).length ≤ i * 1000 + l.length
  mem : ∀ u x, u < E.length → (x ∈ f u ↔ ∃ a : Nat, x = (a : Int) ∧ ((a < i ∧ (u : Int) ∈ E.getD a []) ∨ (a = i ∧ (u : Int) ∈ l)))
theorem BK.start (E : Gr) : BK E (fun _ => []) 0 [] := ⟨fun _ _ => by simp, fun u x _ => by simp⟩
theorem BK.skip {E : Gr} {f : Nat → List Int} {i : Nat} {l : List Int} {x : Int} (h : BK E f i l) (hx : nodeB E.length x = false) : BK E f i (l ++ [x]) := by
  refine ⟨fun u hu => by have := h.len u hu; rw [List.length_append]; omega, fun u y hu => ?_⟩
  have hne : ¬ (u : Int) = x := fun e => by rw [← e, nodeB_nat] at hx; simp at hx; omega
  rw [h.mem u y hu]
  constructor
  · rintro ⟨a, e, h1 | ⟨h1, h2⟩⟩
    · exact ⟨a, e, .inl h1⟩
    · exact ⟨a, e, .inr ⟨h1, by simp [h2]⟩⟩
  · rintro ⟨a, e, h1 | ⟨h1, h2⟩⟩
    · exact ⟨a, e, .inl h1⟩
    · exact ⟨a, e, .inr ⟨h1, by simpa [hne] using h2⟩⟩
theorem BK.push {E : Gr} {f : Nat → List Int} {i k : Nat} {l : List Int} (h : BK E f i l) : BK E (fun m => if m = k then f m ++ [(i : Int)] else f m) i (l ++ [(k : Int)]) := by
  refine ⟨fun u hu => ?_, fun u y hu => ?_⟩
  · have := h.len u hu
    try dsimp only
    split
    · simp; omega
    · simp; omega
  · skip
    by_cases e : u = k
    · subst e
      rw [if_pos rfl, List.mem_append, h.mem u y hu, List.mem_singleton]
      constructor
      · rintro (⟨a, e, h1 | ⟨h1, h2⟩⟩ | rfl)
        · exact ⟨a, e, .inl h1⟩
        · exact ⟨a, e, .inr ⟨h1, by simp [h2]⟩⟩
        · exact ⟨i, rfl, .inr ⟨rfl, by simp⟩⟩
      · rintro ⟨a, e, h1 | ⟨h1, h2⟩⟩
        · exact .inl ⟨a, e, .inl h1⟩
        · exact .inr (by rw [e, h1])
    · have hne : ¬ (u : Int) = (k : Int) := by omega
      rw [if_neg e, h.mem u y hu]
      constructor
      · rintro ⟨a, e, h1 | ⟨h1, h2⟩⟩
        · exact ⟨a, e, .inl h1⟩
        · exact ⟨a, e, .inr ⟨h1, by simp [h2]⟩⟩
      · rintro ⟨a, e, h1 | ⟨h1, h2⟩⟩
        · exact ⟨a, e, .inl h1⟩
        · exact ⟨a, e, .inr ⟨h1, by simpa [hne] using h2⟩⟩
theorem BK.row {E : Gr} {f : Nat → List Int} {i : Nat} (h : BK E f i (E.getD i [])) (hl : (E.getD i []).length ≤ 1000) : BK E f (i + 1) [] := by
  refine ⟨fun u hu => by have := h.len u hu; simp; omega, fun u y hu => ?_⟩
  rw [h.mem u y hu]
  constructor
  · rintro ⟨a, e, ⟨h1, h2⟩ | ⟨h1, h2⟩⟩
    · exact ⟨a, e, .inl ⟨by omega, h2⟩⟩
    · subst h1; exact ⟨a, e, .inl ⟨by omega, h2⟩⟩
  · rintro ⟨a, e, ⟨h1, h2⟩ | ⟨_, h2⟩⟩
    · by_cases e2 : a = i
      · subst e2; exact ⟨a, e, .inr ⟨rfl, h2⟩⟩
      · exact ⟨a, e, .inl ⟨by omega, h2⟩⟩
    · cases h2
/-- What the queue keeps. -/
structure BI (E : Gr) (tg : Nat) (d : Nat → Int) (W : List Int) : Prop where
  tgl : 0 ≤ d tg
  lab : ∀ i, i < E.length → d i = -1 ∨ ∃ m : Nat, d i = (m : Int) ∧ Wn E m i tg ∧ ∀ e, e < m → ¬ Wn E e i tg
  wm : ∀ x, x ∈ W → ∃ v : Nat, x = (v : Int) ∧ v < E.length ∧ 0 ≤ d v
  nd : W.Nodup
  srt : W.Pairwise fun x y => d x.toNat ≤ d y.toNat
  hd : ∀ (u : Nat) (rest : List Int), W = (u : Int) :: rest → (∀ x, x ∈ W → d x.toNat ≤ d u + 1) ∧ ∀ i, i < E.length → d i < 0 → ∀ m : Nat, (m : Int) ≤ d u → ¬ Wn E m i tg
  pr : ∀ v, v < E.length → 0 ≤ d v → (v : Int) ∉ W → ∀ i, i < E.length → (v : Int) ∈ E.getD i [] → 0 ≤ d i
theorem BI.start {E : Gr} {tg : Nat} (ht : tg < E.length) : BI E tg (fun m => if m = tg then 0 else -1) [(tg : Int)] := by
  refine ⟨by simp, fun i hi => ?_, fun x hx => ?_, by simp, by simp, fun u rest h => ?_, fun v hv h0 hn => ?_⟩
  · by_cases e : i = tg
    · subst e; exact .inr ⟨0, by simp, ⟨rfl, hi⟩, fun e he => by omega⟩
    · exact .inl (by simp [e])
  · rw [List.mem_singleton] at hx; exact ⟨tg, hx, ht, by simp⟩
  · injection h with h1 h2
    have : u = tg := by omega
    subst this
    refine ⟨fun x hx => by rw [List.mem_singleton] at hx; subst hx; simp, fun i hi h3 m hm hw => ?_⟩
    simp at hm
    subst hm
    have : i = u := hw.1
    subst this
    simp at h3
  · by_cases e : v = tg
    · subst e; simp at hn
    · simp [e] at h0
theorem BI.label {E : Gr} {tg u i : Nat} {d : Nat → Int} {rest : List Int} (H : BI E tg d ((u : Int) :: rest)) (hi : i < E.length) (hu : (u : Int) ∈ E.getD i []) (h0 : d i < 0) :
    BI E tg (fun m => if m = i then d u + 1 else d m) ((u : Int) :: rest ++ [(i : Int)]) := by
  obtain ⟨v, hv, hvl, hvd⟩ := H.wm u (by simp)
  obtain rfl : u = v := by omega
  have hni : ∀ x, x ∈ (u : Int) :: rest → x.toNat ≠ i := fun x hx e => by
    obtain ⟨v, rfl, _, h1⟩ := H.wm x hx
    rw [Int.toNat_natCast] at e
    subst e; omega
  have hdx : ∀ x, x ∈ (u : Int) :: rest → (if x.toNat = i then d u + 1 else d x.toNat) = d x.toNat := fun x hx => if_neg (hni x hx)
  have hui : u ≠ i := fun e => by subst e; omega
  have hgi := H.hd u rest rfl
  have htg : tg ≠ i := fun e => by subst e; have := H.tgl; omega
  refine ⟨?_, fun q hq => ?_, fun x hx => ?_, ?_, ?_, fun u' rest' h => ?_, fun v hv h1 h2 q hq hm => ?_⟩
  · show 0 ≤ if tg = i then d u + 1 else d tg
    rw [if_neg htg]; exact H.tgl
  · skip
    by_cases e : q = i
    · subst e
      rw [if_pos rfl]
      right
      rcases H.lab u hvl with h1 | ⟨m, h1, h2, h3⟩
      · omega
      · refine ⟨m + 1, by omega, Wn.cons hi hu h2, fun e he hw => ?_⟩
        exact hgi.2 q hi h0 e (by omega) hw
    · rw [if_neg e]; exact H.lab q hq
  · rcases List.mem_append.1 hx with hx | hx
    · obtain ⟨v, rfl, h1, h2⟩ := H.wm x hx
      refine ⟨v, rfl, h1, ?_⟩
      have := hdx _ hx
      simp only [Int.toNat_natCast] at this
      try dsimp only
      rw [this]; exact h2
    · rw [List.mem_singleton] at hx
      exact ⟨i, hx, hi, by simp; omega⟩
  · rw [List.nodup_append]
    refine ⟨H.nd, by simp, fun a ha b hb e => ?_⟩
    rw [List.mem_singleton] at hb
    subst e; subst hb
    exact hni _ ha (by simp)
  · rw [List.pairwise_append]
    refine ⟨H.srt.imp_of_mem fun {a b} ha hb h => ?_, by simp, fun a ha b hb => ?_⟩
    · rw [hdx a ha, hdx b hb]; exact h
    · rw [List.mem_singleton] at hb
      subst hb
      rw [hdx a ha]
      simp
      exact hgi.1 a ha
  · injection h with h1 h2
    obtain rfl : u = u' := by omega
    try dsimp only
    rw [if_neg hui]
    refine ⟨fun x hx => ?_, fun q hq h3 m hm => ?_⟩
    · rcases List.mem_append.1 hx with hx | hx
      · rw [if_neg (hni x hx)]; exact hgi.1 x hx
      · rw [List.mem_singleton] at hx; subst hx; simp
    · by_cases e : q = i
      · subst e; rw [if_pos rfl] at h3; omega
      · rw [if_neg e] at h3; exact hgi.2 q hq h3 m hm
  · have hvi : v ≠ i := fun e => by subst e; simp at h2
    try dsimp only at h1
    rw [if_neg hvi] at h1
    have := H.pr v hv h1 (fun h => h2 (by simp at h ⊢; rcases h with h | h; exact .inl h; exact .inr (.inl h))) q hq hm
    try dsimp only
    by_cases e : q = i
    · subst e; omega
    · rw [if_neg e]; exact this
theorem BI.pop {E : Gr} {tg u : Nat} {d : Nat → Int} {rest : List Int} (H : BI E tg d ((u : Int) :: rest)) (hp : ∀ i, i < E.length → (u : Int) ∈ E.getD i [] → 0 ≤ d i) : BI E tg d rest := by
  have hgi := H.hd u rest rfl
  have hsr := List.pairwise_cons.1 H.srt
  have hpr : ∀ v, v < E.length → 0 ≤ d v → (v : Int) ∉ rest → ∀ i, i < E.length → (v : Int) ∈ E.getD i [] → 0 ≤ d i := fun v hv h0 hn i hi hm => by
    by_cases e : v = u
    · subst e; exact hp i hi hm
    · exact H.pr v hv h0 (fun h => by rcases List.mem_cons.1 h with h | h; exact e (by omega); exact hn h) i hi hm
  refine ⟨H.tgl, H.lab, fun x hx => H.wm x (by simp [hx]), (List.nodup_cons.1 H.nd).2, hsr.2, fun u' rest' h => ?_, hpr⟩
  have hsr2 := hsr.2
  rw [h] at hsr2
  have hu' := hsr.1 u' (by rw [h]; simp)
  simp only [Int.toNat_natCast] at hu'
  have hu1 := hgi.1 u' (by rw [h]; simp)
  rw [Int.toNat_natCast] at hu1
  refine ⟨fun x hx => by have := hgi.1 x (by simp [hx]); omega, fun i hi h0 m hm hw => ?_⟩
  by_cases hmu : (m : Int) ≤ d u
  · exact hgi.2 i hi h0 m hmu hw
  · obtain ⟨v, hv, _, hvd⟩ := H.wm u (by simp)
    obtain rfl : u = v := by omega
    cases m with
    | zero => omega
    | succ m =>
      rcases hw.left with ⟨e, e2⟩ | ⟨j, h1, h2, h3⟩
      · exact hgi.2 i hi h0 0 (by omega) ⟨e, e2⟩
      · have hj0 : 0 ≤ d j := by
          rcases Int.lt_or_le (d j) 0 with h4 | h4
          · exact absurd h3 (hgi.2 j h2 h4 m (by omega))
          · exact h4
        have hjm : d j ≤ (m : Int) := by
          rcases H.lab j h2 with h4 | ⟨q, h4, h5, h6⟩
          · omega
          · rcases Nat.lt_or_ge m q with h7 | h7
            · exact absurd h3 (h6 m h7)
            · omega
        have hjn : (j : Int) ∉ rest := fun hj => by
          rw [h] at hj
          rcases List.mem_cons.1 hj with hj | hj
          · have : j = u' := by omega
            subst this; omega
          · have := (List.pairwise_cons.1 hsr2).1 _ hj
            simp only [Int.toNat_natCast] at this
            omega
        have := hpr j h2 hj0 hjn i hi h1
        omega
theorem BI.fin {E : Gr} {tg : Nat} {d : Nat → Int} (H : BI E tg d []) {i : Nat} (hi : i < E.length) : d i = sd E tg i := by
  have key : ∀ m i, Wn E m i tg → 0 ≤ d i := by
    intro m
    induction m with
    | zero => rintro i ⟨rfl, _⟩; exact H.tgl
    | succ m ih =>
      intro i hw
      rcases hw.left with ⟨rfl, _⟩ | ⟨j, h1, h2, h3⟩
      · exact H.tgl
      · exact H.pr j h2 (ih j h3) (by simp) i hw.lt.1 h1
  refine IsSd.one ?_ (sd_is E tg i)
  rcases H.lab i hi with h | h
  · exact .inl ⟨h, fun m hm => by have := key m i hm; omega⟩
  · exact .inr h
/-- The labelled ones. -/
def lbl (d : Nat → Int) (m : Nat) : Bool := decide (0 ≤ d m)
theorem lbl_set {n i : Nat} {d : Nat → Int} {x : Int} (hi : i < n) (h0 : d i < 0) (hx : 0 ≤ x) : cnt n (lbl fun m => if m = i then x else d m) = cnt n (lbl d) + 1 := by
  have h1 : cnt n (fun k => decide (k ∈ [i])) = [i].length := cnt_mem (by simp) (by simp [hi])
  rw [cnt_add (f := lbl d) (g := fun k => decide (k ∈ [i])), h1]
  · rfl
  · intro k _
    unfold lbl
    by_cases e : k = i
    · subst e; simp [hx]
    · simp [e]
  · intro k _ h2 h3
    simp at h3
    subst h3
    unfold lbl at h2
    simp at h2; omega
theorem BI.lenW {E : Gr} {tg : Nat} {d : Nat → Int} {W : List Int} (H : BI E tg d W) : W.length ≤ E.length := hlen_of H.nd fun x hx => by
  obtain ⟨v, h1, h2, _⟩ := H.wm x hx; exact ⟨v, h2, h1⟩
end Go.Proofs.Yteejlibiidiibaa
