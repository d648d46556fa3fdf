/-
  Plain: reduced ordered trees, their values, and the lists of their nodes.
-/
namespace Go.Proofs.Ytkppcibffbnhoaa

inductive T where
  | c (b : Bool)
  | n (l : Nat) (h k : T)

def T.beq : T → T → Bool
  | .c a, .c b => a == b
  | .n l h k, .n l' h' k' => l == l' && (T.beq h h' && T.beq k k')
  | .c _, .n _ _ _ => false
  | .n _ _ _, .c _ => false
theorem T.beq_iff : ∀ a b : T, T.beq a b = true ↔ a = b
  | .c a, .c b => by simp [T.beq]
  | .n l h k, .n l' h' k' => by simp [T.beq, T.beq_iff h h', T.beq_iff k k']
  | .c _, .n _ _ _ => by simp [T.beq]
  | .n _ _ _, .c _ => by simp [T.beq]
instance : DecidableEq T := fun a b => decidable_of_iff _ (T.beq_iff a b)

/-- The literal that a tree tests first; 12 if there is none. -/
def T.lit : T → Nat
  | .c _ => 12
  | .n l _ _ => l
def T.sz : T → Nat
  | .c _ => 0
  | .n _ h k => h.sz + k.sz + 1
/-- The value under an assignment. -/
def T.ev : T → (Nat → Bool) → Bool
  | .c b, _ => b
  | .n l h k, a => if a l then h.ev a else k.ev a
/-- Reduced and ordered. -/
def T.Ok : T → Prop
  | .c _ => True
  | .n l h k => h.Ok ∧ k.Ok ∧ l < h.lit ∧ l < k.lit ∧ h ≠ k

theorem lit_le : ∀ {t : T}, t.Ok → t.lit ≤ 12
  | .c _, _ => Nat.le_refl _
  | .n l h k, o => by have := lit_le o.1; have := o.2.2.1; show l ≤ 12; omega
theorem lit_lt {l : Nat} {h k : T} (o : (T.n l h k).Ok) : l < 12 := by have := lit_le o.1; have := o.2.2.1; omega

/-- Only the literals from the tree's own on count. -/
theorem ev_congr {a b : Nat → Bool} : ∀ {t : T}, t.Ok → (∀ i, t.lit ≤ i → i < 12 → a i = b i) → t.ev a = t.ev b
  | .c _, _, _ => rfl
  | .n l h k, o, hab => by
    obtain ⟨oh, ok, lh, lk, _⟩ := id o
    have h1 := ev_congr oh fun i hi hl => hab i (by show l ≤ i; omega) hl
    have h2 := ev_congr ok fun i hi hl => hab i (by show l ≤ i; omega) hl
    simp only [T.ev]
    rw [h1, h2, hab l (Nat.le_refl _) (lit_lt o)]

def upd (a : Nat → Bool) (l : Nat) (v : Bool) : Nat → Bool := fun i => if i = l then v else a i
theorem ev_upd {a : Nat → Bool} {l : Nat} {v : Bool} {t : T} (o : t.Ok) (hl : l < t.lit) : t.ev (upd a l v) = t.ev a :=
  ev_congr o fun i hi _ => by unfold upd; rw [if_neg (by omega)]
theorem ev_high {a : Nat → Bool} {l : Nat} {h k : T} (o : (T.n l h k).Ok) : (T.n l h k).ev (upd a l true) = h.ev a := by
  obtain ⟨oh, ok, lh, lk, _⟩ := id o
  simp only [T.ev]
  rw [if_pos (by simp [upd]), ev_upd oh lh]
theorem ev_low {a : Nat → Bool} {l : Nat} {h k : T} (o : (T.n l h k).Ok) : (T.n l h k).ev (upd a l false) = k.ev a := by
  obtain ⟨oh, ok, lh, lk, _⟩ := id o
  simp only [T.ev]
  rw [if_neg (by simp [upd]), ev_upd ok lk]

/-- Trees with the same values are the same. -/
theorem ev_inj : ∀ (m : Nat) {s t : T}, s.sz + t.sz ≤ m → s.Ok → t.Ok → (∀ a, s.ev a = t.ev a) → s = t := by
  intro m
  induction m with
  | zero =>
    intro s t hm os ot h
    cases s with
    | c b => cases t with
      | c b' => have := h fun _ => false; simp only [T.ev] at this; rw [this]
      | n l h k => simp [T.sz] at hm
    | n l h k => simp [T.sz] at hm
  | succ m ih =>
    have key : ∀ (l : Nat) (h k t : T), (T.n l h k).sz + t.sz ≤ m + 1 → (T.n l h k).Ok → t.Ok → l < t.lit → (∀ a, (T.n l h k).ev a = t.ev a) → False := by
      intro l h k t hm os ot hl he
      obtain ⟨oh, ok, lh, lk, hne⟩ := id os
      refine hne (ih (by simp only [T.sz] at hm; omega) oh ok fun a => ?_)
      rw [← ev_high (a := a) os, ← ev_low (a := a) os, he, he, ev_upd ot hl, ev_upd ot hl]
    intro s t hm os ot he
    cases s with
    | c b => cases t with
      | c b' => have := he fun _ => false; simp only [T.ev] at this; rw [this]
      | n l h k => exact (key l h k (.c b) (by omega) ot os (lit_lt ot) fun a => (he a).symm).elim
    | n l h k => cases t with
      | c b' => exact (key l h k (.c b') hm os ot (lit_lt os) he).elim
      | n l' h' k' =>
        rcases Nat.lt_trichotomy l l' with hl | rfl | hl
        · exact (key l h k _ hm os ot hl he).elim
        · simp only [T.sz] at hm
          have e1 : h = h' := ih (by omega) os.1 ot.1 fun a => by rw [← ev_high (a := a) os, ← ev_high (a := a) ot, he]
          have e2 : k = k' := ih (by omega) os.2.1 ot.2.1 fun a => by rw [← ev_low (a := a) os, ← ev_low (a := a) ot, he]
          rw [e1, e2]
        · exact (key l' h' k' _ (by omega) ot os hl fun a => (he a).symm).elim
theorem ev_eq {s t : T} (os : s.Ok) (ot : t.Ok) (h : ∀ a, s.ev a = t.ev a) : s = t := ev_inj _ (Nat.le_refl _) os ot h
/-- Each assignment of the literals is a number's. -/
theorem bits_of (a : Nat → Bool) : ∀ n, ∃ m, m < 2 ^ n ∧ ∀ i, i < n → m.testBit i = a i := by
  intro n
  induction n with
  | zero => exact ⟨0, by decide, fun i h => absurd h (by omega)⟩
  | succ n ih =>
    obtain ⟨m, hm, hb⟩ := ih
    cases ha : a n with
    | false =>
      refine ⟨m, by rw [Nat.pow_succ]; omega, fun i hi => ?_⟩
      rcases Nat.lt_succ_iff_lt_or_eq.1 hi with h | rfl
      · exact hb i h
      · rw [ha]; exact Nat.testBit_lt_two_pow hm
    | true =>
      refine ⟨2 ^ n + m, by rw [Nat.pow_succ]; omega, fun i hi => ?_⟩
      rcases Nat.lt_succ_iff_lt_or_eq.1 hi with h | rfl
      · rw [Nat.testBit_two_pow_add_gt h]; exact hb i h
      · rw [Nat.testBit_two_pow_add_eq, Nat.testBit_lt_two_pow hm, ha]; rfl
theorem ev_eq12 {s t : T} (os : s.Ok) (ot : t.Ok) (h : ∀ m, m < 4096 → s.ev (fun i => m.testBit i) = t.ev (fun i => m.testBit i)) : s = t := by
  refine ev_eq os ot fun a => ?_
  obtain ⟨m, hm, hb⟩ := bits_of a 12
  have e1 : s.ev (fun i => m.testBit i) = s.ev a := ev_congr os fun i _ hi => hb i hi
  have e2 : t.ev (fun i => m.testBit i) = t.ev a := ev_congr ot fun i _ hi => hb i hi
  rw [← e1, ← e2]; exact h m hm

/-- A node, unless its branches agree. -/
def mk (l : Nat) (h k : T) : T := if h = k then h else .n l h k
theorem mk_ev (l : Nat) (h k : T) (a : Nat → Bool) : (mk l h k).ev a = if a l then h.ev a else k.ev a := by
  unfold mk; split
  · rename_i e; subst e; split <;> rfl
  · rfl
theorem mk_ok {l : Nat} {h k : T} (oh : h.Ok) (ok : k.Ok) (lh : l < h.lit) (lk : l < k.lit) : (mk l h k).Ok := by
  unfold mk; split
  · exact oh
  · rename_i hne; exact ⟨oh, ok, lh, lk, hne⟩
theorem mk_lit {l : Nat} {h k : T} (lh : l < h.lit) : l ≤ (mk l h k).lit := by
  unfold mk; split
  · omega
  · exact Nat.le_refl _

/-- The tree of a table: j literals are left, the others have the bits m. -/
def tb (f : Nat → Bool) : Nat → Nat → T
  | 0, m => .c (f m)
  | j + 1, m => mk (11 - j) (tb f j (m + 2 ^ (11 - j))) (tb f j m)
theorem tb_ok (f : Nat → Bool) : ∀ (j : Nat), j ≤ 12 → ∀ m, (tb f j m).Ok ∧ 12 - j ≤ (tb f j m).lit
  | 0, _, m => ⟨trivial, Nat.le_refl _⟩
  | j + 1, hj, m => by
    obtain ⟨o1, l1⟩ := tb_ok f j (by omega) (m + 2 ^ (11 - j))
    obtain ⟨o2, l2⟩ := tb_ok f j (by omega) m
    refine ⟨mk_ok o1 o2 (by omega) (by omega), ?_⟩
    have := mk_lit (l := 11 - j) (h := tb f j (m + 2 ^ (11 - j))) (k := tb f j m) (by omega)
    show 12 - (j + 1) ≤ (mk (11 - j) _ _).lit
    omega
theorem mod_split (M l : Nat) : M % 2 ^ (l + 1) = M % 2 ^ l + if M.testBit l then 2 ^ l else 0 := by
  rw [Nat.pow_succ, Nat.mod_mul, Nat.testBit_eq_decide_div_mod_eq]
  rcases Nat.mod_two_eq_zero_or_one (M / 2 ^ l) with h | h <;> simp [h]
theorem tb_ev (f : Nat → Bool) (M : Nat) (hM : M < 4096) : ∀ (j : Nat), j ≤ 12 → (tb f j (M % 2 ^ (12 - j))).ev (fun i => M.testBit i) = f M
  | 0, _ => by simp only [tb, T.ev]; rw [Nat.mod_eq_of_lt (by simpa using hM)]
  | j + 1, hj => by
    have ih := tb_ev f M hM j (by omega)
    have e : 12 - j = (11 - j) + 1 := by omega
    rw [e, mod_split] at ih
    simp only [tb]
    rw [mk_ev, show 12 - (j + 1) = 11 - j by omega]
    split
    · rename_i hb
      rw [if_pos hb] at ih; exact ih
    · rename_i hb
      rw [if_neg hb, Nat.add_zero] at ih; exact ih
/-- The tree of a table of the 4096 assignments. -/
def treeOf (f : Nat → Bool) : T := tb f 12 0
theorem tb_ok1 (f : Nat → Bool) (j : Nat) (hj : j ≤ 12) (m : Nat) : (tb f j m).Ok := (tb_ok f j hj m).1
theorem treeOf_ok (f : Nat → Bool) : (treeOf f).Ok := by
  have h : ∀ j m, j ≤ 12 → (tb f j m).Ok := fun j m hj => tb_ok1 f j hj m
  unfold treeOf
  generalize hj : (12 : Nat) = j
  exact h j 0 (by omega)
theorem treeOf_ev (f : Nat → Bool) (M : Nat) (hM : M < 4096) : (treeOf f).ev (fun i => M.testBit i) = f M := by
  have := tb_ev f M hM 12 (Nat.le_refl _)
  rw [show M % 2 ^ (12 - 12) = 0 from Nat.mod_one _] at this
  unfold treeOf; exact this

/-! ### Lists of nodes -/

/-- The reference of a tree in a list of trees. -/
def ref (L : List T) : T → Nat
  | .c false => 0
  | .c true => 1
  | .n l h k => L.idxOf (.n l h k) + 2
/-- The tree is a constant or stands in the list. -/
def inn (L : List T) : T → Prop
  | .c _ => True
  | .n l h k => T.n l h k ∈ L
structure Wf (L : List T) : Prop where
  nodup : L.Nodup
  ok : ∀ t ∈ L, t.Ok
  nc : ∀ t ∈ L, ∃ l h k, t = .n l h k
  closed : ∀ (i : Nat) (l : Nat) (h k : T), L[i]? = some (.n l h k) → inn (L.take i) h ∧ inn (L.take i) k
theorem Wf.nil : Wf [] := ⟨List.nodup_nil, by simp, by simp, by simp⟩
theorem inn_mono {L M : List T} (h : ∀ t ∈ L, t ∈ M) : ∀ {t : T}, inn L t → inn M t
  | .c _, _ => trivial
  | .n _ _ _, hi => h _ hi
theorem inn_app {L M : List T} {t : T} (h : inn L t) : inn (L ++ M) t := inn_mono (fun t ht => List.mem_append_left _ ht) h
theorem ref_lt {L : List T} : ∀ {t : T}, inn L t → ref L t < L.length + 2
  | .c true, _ => by simp only [ref]; omega
  | .c false, _ => by simp only [ref]; omega
  | .n l h k, hi => by
    have := List.idxOf_lt_length_of_mem (show T.n l h k ∈ L from hi)
    simp only [ref]; omega
theorem ref_app {L M : List T} : ∀ {t : T}, inn L t → ref (L ++ M) t = ref L t
  | .c true, _ => rfl
  | .c false, _ => rfl
  | .n l h k, hi => by simp only [ref]; rw [List.idxOf_append, if_pos (show T.n l h k ∈ L from hi)]
theorem getElem_idxOf' {L : List T} {t : T} (h : t ∈ L) : L[L.idxOf t]? = some t := by
  rw [List.getElem?_eq_getElem (List.idxOf_lt_length_of_mem h)]
  simp
theorem ref_inj {L : List T} : ∀ {s t : T}, inn L s → inn L t → ref L s = ref L t → s = t
  | .c a, .c b, _, _, h => by cases a <;> cases b <;> simp [ref] at h <;> rfl
  | .c a, .n l' h' k', _, _, h => by cases a <;> simp [ref] at h <;> omega
  | .n l h k, .c b, _, _, e => by cases b <;> simp [ref] at e
  | .n l h k, .n l' h' k', hs, ht, e => by
    simp only [ref] at e
    have e2 : L.idxOf (T.n l h k) = L.idxOf (T.n l' h' k') := by omega
    have h1 := getElem_idxOf' (show T.n l h k ∈ L from hs)
    rw [e2, getElem_idxOf' (show T.n l' h' k' ∈ L from ht)] at h1
    exact (Option.some.inj h1).symm
/-- A node as the diagrams have it. -/
def enc (L : List T) : T → Nat × Nat × Nat
  | .c _ => (0, 0, 0)
  | .n l h k => (l, ref L h, ref L k)
def nodes (L : List T) : List (Nat × Nat × Nat) := L.map (enc L)
theorem nodes_length (L : List T) : (nodes L).length = L.length := by simp [nodes]
theorem take_mem {L : List T} {i : Nat} {t : T} (h : t ∈ L.take i) : t ∈ L := List.mem_of_mem_take h
theorem Wf.kids {L : List T} (w : Wf L) {l : Nat} {h k : T} (hm : T.n l h k ∈ L) : inn L h ∧ inn L k := by
  obtain ⟨i, hi⟩ := List.getElem?_of_mem hm
  obtain ⟨h1, h2⟩ := w.closed i l h k hi
  exact ⟨inn_mono (fun t => take_mem) h1, inn_mono (fun t => take_mem) h2⟩
theorem enc_inj {L : List T} (w : Wf L) {s t : T} (hs : s ∈ L) (ht : t ∈ L) (e : enc L s = enc L t) : s = t := by
  obtain ⟨l, h, k, rfl⟩ := w.nc s hs
  obtain ⟨l', h', k', rfl⟩ := w.nc t ht
  obtain ⟨a1, a2⟩ := w.kids hs
  obtain ⟨b1, b2⟩ := w.kids ht
  simp only [enc, Prod.mk.injEq] at e
  obtain ⟨rfl, e2, e3⟩ := e
  rw [ref_inj a1 b1 e2, ref_inj a2 b2 e3]
theorem nodes_snoc {L : List T} (w : Wf L) {l : Nat} {h k : T} (hh : inn L h) (hk : inn L k) : nodes (L ++ [.n l h k]) = nodes L ++ [(l, ref L h, ref L k)] := by
  unfold nodes
  rw [List.map_append]
  congr 1
  · refine List.map_congr_left fun t ht => ?_
    obtain ⟨l', h', k', rfl⟩ := w.nc t ht
    obtain ⟨b1, b2⟩ := w.kids ht
    simp only [enc]; rw [ref_app b1, ref_app b2]
  · simp only [List.map_cons, List.map_nil, enc]; rw [ref_app hh, ref_app hk]
theorem Wf.snoc {L : List T} (w : Wf L) {l : Nat} {h k : T} (o : (T.n l h k).Ok) (hh : inn L h) (hk : inn L k) (hn : T.n l h k ∉ L) : Wf (L ++ [.n l h k]) := by
  refine ⟨?_, ?_, ?_, ?_⟩
  · refine List.nodup_append.2 ⟨w.nodup, by simp, ?_⟩
    intro a ha b hb
    obtain rfl := List.mem_singleton.1 hb
    intro e; subst e; exact hn ha
  · intro t ht
    rcases List.mem_append.1 ht with h | h
    · exact w.ok t h
    · obtain rfl := List.mem_singleton.1 h; exact o
  · intro t ht
    rcases List.mem_append.1 ht with h | h
    · exact w.nc t h
    · obtain rfl := List.mem_singleton.1 h; exact ⟨_, _, _, rfl⟩
  · intro i l' h' k' hi
    rcases Nat.lt_or_ge i L.length with hl | hl
    · rw [List.getElem?_append_left hl] at hi
      rw [List.take_append_of_le_length (by omega)]
      exact w.closed i l' h' k' hi
    · rw [List.getElem?_append_right hl] at hi
      have h0 : i - L.length = 0 := by
        rcases Nat.eq_zero_or_pos (i - L.length) with h | h
        · exact h
        · rw [List.getElem?_eq_none (by simp; omega)] at hi; cases hi
      rw [h0] at hi
      simp only [List.getElem?_cons_zero, Option.some.injEq, T.n.injEq] at hi
      obtain ⟨rfl, rfl, rfl⟩ := hi
      have : (L ++ [T.n l h k]).take i = L := by
        obtain rfl : i = L.length := by omega
        simp
      rw [this]; exact ⟨hh, hk⟩
/-- What a walk from a tree on finishes, high branches first. -/
def vis : T → List T → List T
  | .c _, L => L
  | .n l h k, L => if T.n l h k ∈ L then L else vis k (vis h L) ++ [.n l h k]
theorem vis_known {L : List T} : ∀ {t : T}, inn L t → vis t L = L
  | .c _, _ => rfl
  | .n l h k, hi => by simp only [vis]; rw [if_pos (show T.n l h k ∈ L from hi)]
theorem vis_new : ∀ {t x : T} {L : List T}, x ∈ vis t L → x ∈ L ∨ x.sz ≤ t.sz
  | .c _, _, _, h => .inl h
  | .n l h k, x, L, hx => by
    simp only [vis] at hx
    split at hx
    · exact .inl hx
    · rcases List.mem_append.1 hx with h1 | h1
      · rcases vis_new h1 with h2 | h2
        · rcases vis_new h2 with h3 | h3
          · exact .inl h3
          · right; simp only [T.sz]; omega
        · right; simp only [T.sz]; omega
      · obtain rfl := List.mem_singleton.1 h1; right; omega
theorem vis_spec : ∀ {t : T} {L : List T}, Wf L → t.Ok → Wf (vis t L) ∧ (∃ M, vis t L = L ++ M) ∧ inn (vis t L) t
  | .c _, L, w, _ => ⟨w, ⟨[], by simp [vis]⟩, trivial⟩
  | .n l h k, L, w, o => by
    simp only [vis]
    split
    · rename_i hm; exact ⟨w, ⟨[], by simp⟩, hm⟩
    · rename_i hm
      obtain ⟨w1, ⟨M1, e1⟩, i1⟩ := vis_spec (t := h) w o.1
      obtain ⟨w2, ⟨M2, e2⟩, i2⟩ := vis_spec (t := k) w1 o.2.1
      have hn : T.n l h k ∉ vis k (vis h L) := fun hx => by
        rcases vis_new hx with h2 | h2
        · rcases vis_new h2 with h3 | h3
          · exact hm h3
          · simp only [T.sz] at h3; omega
        · simp only [T.sz] at h2; omega
      have i1' : inn (vis k (vis h L)) h := by rw [e2]; exact inn_app i1
      exact ⟨w2.snoc o i1' i2 hn, ⟨M1 ++ (M2 ++ [T.n l h k]), by rw [e2, e1]; simp⟩, List.mem_append_right _ (List.mem_singleton.2 rfl)⟩
/-- The diagram of a tree. -/
def canonL (t : T) : List T := vis t []
def canonN (t : T) : List (Nat × Nat × Nat) := nodes (canonL t)
def canonR (t : T) : Nat := ref (canonL t) t
theorem canon_wf {t : T} (o : t.Ok) : Wf (canonL t) ∧ inn (canonL t) t := by
  obtain ⟨h1, _, h2⟩ := vis_spec (t := t) Wf.nil o
  exact ⟨h1, h2⟩
/-- The tree of a reference. -/
def tr (L : List T) : Nat → T
  | 0 => .c false
  | 1 => .c true
  | r + 2 => L.getD r (.c false)
theorem tr_ref {L : List T} : ∀ {t : T}, inn L t → tr L (ref L t) = t
  | .c true, _ => rfl
  | .c false, _ => rfl
  | .n l h k, hi => by
    simp only [ref, tr]
    rw [List.getD_eq_getElem?_getD, getElem_idxOf' (show T.n l h k ∈ L from hi)]; rfl
theorem tr_inn {L : List T} (w : Wf L) {r : Nat} (hr : r < L.length + 2) : inn L (tr L r) ∧ ref L (tr L r) = r := by
  match r, hr with
  | 0, _ => exact ⟨trivial, rfl⟩
  | 1, _ => exact ⟨trivial, rfl⟩
  | r + 2, hr =>
    have hl : r < L.length := by omega
    have e : tr L (r + 2) = L[r] := by simp only [tr]; rw [List.getD_eq_getElem?_getD, List.getElem?_eq_getElem hl]; rfl
    obtain ⟨l, h, k, hx⟩ := w.nc L[r] (List.getElem_mem hl)
    have hm : T.n l h k ∈ L := hx ▸ List.getElem_mem hl
    rw [e, hx]
    refine ⟨hm, ?_⟩
    simp only [ref]
    have := w.nodup.idxOf_getElem r hl
    rw [hx] at this
    rw [this]
/-- Two trees with the same diagram are the same. -/
theorem canon_inj {s t : T} (os : s.Ok) (ot : t.Ok) (hN : canonN s = canonN t) (hR : canonR s = canonR t) : s = t := by
  obtain ⟨w1, i1⟩ := canon_wf os
  obtain ⟨w2, i2⟩ := canon_wf ot
  have key : ∀ (L M : List T), Wf L → Wf M → nodes L = nodes M → L = M := by
    intro L M wL wM hLM
    have hlen : L.length = M.length := by rw [← nodes_length, hLM, nodes_length]
    have step : ∀ n, n ≤ L.length → L.take n = M.take n := by
      intro n
      induction n with
      | zero => intro _; simp
      | succ n ih =>
        intro hn
        have e := ih (by omega)
        have hl1 : n < L.length := by omega
        have hl2 : n < M.length := by omega
        rw [List.take_succ_eq_append_getElem hl1, List.take_succ_eq_append_getElem hl2, e]
        obtain ⟨l, h, k, hx⟩ := wL.nc L[n] (List.getElem_mem hl1)
        obtain ⟨l', h', k', hy⟩ := wM.nc M[n] (List.getElem_mem hl2)
        have c1 := wL.closed n l h k (by rw [List.getElem?_eq_getElem hl1, hx])
        have c2 := wM.closed n l' h' k' (by rw [List.getElem?_eq_getElem hl2, hy])
        have g : (nodes L)[n]? = (nodes M)[n]? := by rw [hLM]
        simp only [nodes, List.getElem?_map, List.getElem?_eq_getElem hl1, List.getElem?_eq_getElem hl2, Option.map_some, Option.some.injEq, hx, hy, enc, Prod.mk.injEq] at g
        obtain ⟨rfl, g2, g3⟩ := g
        have rl : ∀ {x : T}, inn (L.take n) x → ref L x = ref (L.take n) x := fun {x} hi => by
          have := ref_app (M := L.drop n) hi; rwa [List.take_append_drop] at this
        have rm : ∀ {x : T}, inn (M.take n) x → ref M x = ref (M.take n) x := fun {x} hi => by
          have := ref_app (M := M.drop n) hi; rwa [List.take_append_drop] at this
        rw [rl c1.1, rm c2.1, e] at g2
        rw [rl c1.2, rm c2.2, e] at g3
        rw [hx, hy, ref_inj (e ▸ c1.1) c2.1 g2, ref_inj (e ▸ c1.2) c2.2 g3]
    have := step L.length (Nat.le_refl _)
    rwa [List.take_length, hlen, List.take_length] at this
  have e := key _ _ w1 w2 hN
  have h1 := tr_ref i1
  have h2 := tr_ref i2
  unfold canonR at hR
  rw [← h1, ← h2, hR, e]
end Go.Proofs.Ytkppcibffbnhoaa
