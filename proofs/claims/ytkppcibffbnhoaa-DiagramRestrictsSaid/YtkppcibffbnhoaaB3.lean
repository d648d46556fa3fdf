/-
  Plain: what a boolean operation on two trees is, node by node.
-/
import Derived.Test.YtkppcibffbnhoaaB2
namespace Go.Proofs.Ytkppcibffbnhoaa

def T.hi (n : Nat) : T → T
  | .c b => .c b
  | .n l h k => if l = n then h else .n l h k
def T.lo (n : Nat) : T → T
  | .c b => .c b
  | .n l h k => if l = n then k else .n l h k
theorem hi_ok {n : Nat} : ∀ {t : T}, t.Ok → (t.hi n).Ok
  | .c _, _ => trivial
  | .n l h k, o => by simp only [T.hi]; split <;> first | exact o.1 | exact o
theorem lo_ok {n : Nat} : ∀ {t : T}, t.Ok → (t.lo n).Ok
  | .c _, _ => trivial
  | .n l h k, o => by simp only [T.lo]; split <;> first | exact o.2.1 | exact o
theorem hi_ev {n : Nat} {a : Nat → Bool} : ∀ {t : T}, t.Ok → n ≤ t.lit → (t.hi n).ev a = t.ev (upd a n true)
  | .c _, _, _ => rfl
  | .n l h k, o, hl => by
    simp only [T.hi]; split
    · rename_i e; subst e; exact (ev_high o).symm
    · rename_i e; exact (ev_upd o (by have : n ≤ l := hl; show n < l; omega)).symm
theorem lo_ev {n : Nat} {a : Nat → Bool} : ∀ {t : T}, t.Ok → n ≤ t.lit → (t.lo n).ev a = t.ev (upd a n false)
  | .c _, _, _ => rfl
  | .n l h k, o, hl => by
    simp only [T.lo]; split
    · rename_i e; subst e; exact (ev_low o).symm
    · rename_i e; exact (ev_upd o (by have : n ≤ l := hl; show n < l; omega)).symm
theorem hi_inn {n : Nat} {L : List T} (w : Wf L) : ∀ {t : T}, inn L t → inn L (t.hi n)
  | .c _, _ => trivial
  | .n l h k, hi => by simp only [T.hi]; split <;> first | exact (w.kids hi).1 | exact hi
theorem lo_inn {n : Nat} {L : List T} (w : Wf L) : ∀ {t : T}, inn L t → inn L (t.lo n)
  | .c _, _ => trivial
  | .n l h k, hi => by simp only [T.lo]; split <;> first | exact (w.kids hi).2 | exact hi
theorem hi_sz {n : Nat} : ∀ (t : T), (t.hi n).sz ≤ t.sz ∧ (t.lit = n → n < 12 → (t.hi n).sz < t.sz)
  | .c _ => ⟨Nat.le_refl _, fun h hn => by simp only [T.lit] at h; omega⟩
  | .n l h k => by
    simp only [T.hi]
    split
    · exact ⟨by simp only [T.sz]; omega, fun _ _ => by simp only [T.sz]; omega⟩
    · rename_i e; exact ⟨Nat.le_refl _, fun h _ => absurd h e⟩
theorem lo_sz {n : Nat} : ∀ (t : T), (t.lo n).sz ≤ t.sz ∧ (t.lit = n → n < 12 → (t.lo n).sz < t.sz)
  | .c _ => ⟨Nat.le_refl _, fun h hn => by simp only [T.lit] at h; omega⟩
  | .n l h k => by
    simp only [T.lo]
    split
    · exact ⟨by simp only [T.sz]; omega, fun _ _ => by simp only [T.sz]; omega⟩
    · rename_i e; exact ⟨Nat.le_refl _, fun h _ => absurd h e⟩
theorem c_of_lit : ∀ {t : T}, t.Ok → 12 ≤ t.lit → ∃ b, t = .c b
  | .c b, _, _ => ⟨b, rfl⟩
  | .n l h k, o, hl => absurd (lit_lt o) (by have : 12 ≤ l := hl; omega)
/-- A tree that does not depend on the literals up to l. -/
theorem lit_gt {l : Nat} (hl : l < 12) : ∀ {t : T}, t.Ok → (∀ a i v, i ≤ l → t.ev (upd a i v) = t.ev a) → l < t.lit
  | .c _, _, _ => hl
  | .n l' h k, o, hi => by
    rcases Nat.lt_or_ge l l' with h1 | h1
    · exact h1
    · exfalso
      refine o.2.2.2.2 (ev_eq o.1 o.2.1 fun a => ?_)
      rw [← ev_high (a := a) o, ← ev_low (a := a) o, hi _ _ _ h1, hi _ _ _ h1]
theorem tree_ex (f : Nat → Bool) : ∃ t : T, t.Ok ∧ ∀ M, M < 4096 → t.ev (fun i => M.testBit i) = f M := by
  have h : ∀ j, j = 12 → ∃ t : T, t.Ok ∧ ∀ M, M < 4096 → t.ev (fun i => M.testBit i) = f M := fun j hj => by
    refine ⟨tb f j 0, tb_ok1 f j (by omega) 0, fun M hM => ?_⟩
    have := tb_ev f M hM j (by omega)
    rw [show 12 - j = 0 by omega, show M % 2 ^ 0 = 0 from Nat.mod_one _] at this
    exact this
  exact h 12 rfl
theorem tree_of (g : (Nat → Bool) → Bool) (hg : ∀ a b, (∀ i, i < 12 → a i = b i) → g a = g b) : ∃ t : T, t.Ok ∧ ∀ a, t.ev a = g a := by
  obtain ⟨t, h1, h2⟩ := tree_ex fun m => g fun i => m.testBit i
  refine ⟨t, h1, fun a => ?_⟩
  obtain ⟨m, hm, hb⟩ := bits_of a 12
  rw [← hg (fun i => m.testBit i) a (fun i hi => hb i hi), ← h2 m hm]
  exact ev_congr h1 fun i _ hi => (hb i hi).symm
theorem upd_congr {a b : Nat → Bool} {n : Nat} {v : Bool} (h : ∀ i, i < 12 → a i = b i) : ∀ i, i < 12 → upd a n v i = upd b n v i := fun i hi => by
  unfold upd; split
  · rfl
  · exact h i hi
theorem ev_same {a b : Nat → Bool} {t : T} (o : t.Ok) (h : ∀ i, i < 12 → a i = b i) : t.ev a = t.ev b := ev_congr o fun i _ hi => h i hi
theorem upd_upd (a : Nat → Bool) (n : Nat) (v u : Bool) : upd (upd a n v) n u = upd a n u := by
  funext i; unfold upd; split <;> rfl
theorem upd_comm (a : Nat → Bool) {n m : Nat} (h : n ≠ m) (v u : Bool) : upd (upd a n v) m u = upd (upd a m u) n v := by
  funext i; unfold upd; split
  · rename_i e; subst e; rw [if_neg (fun h2 => h h2.symm)]
  · rfl
theorem upd_self (a : Nat → Bool) (n : Nat) : upd a n (a n) = a := by
  funext i; unfold upd; split
  · rename_i e; rw [e]
  · rfl
/-- What R is, a literal down. -/
theorem op_step {op : Bool → Bool → Bool} {s t R : T} (os : s.Ok) (ot : t.Ok) (oR : R.Ok) (hR : ∀ a, R.ev a = op (s.ev a) (t.ev a)) {n : Nat} (hs : n ≤ s.lit) (ht : n ≤ t.lit) (hn : n < 12) :
    ∃ H K : T, H.Ok ∧ K.Ok ∧ R = mk n H K ∧ (∀ a, H.ev a = op ((s.hi n).ev a) ((t.hi n).ev a)) ∧ (∀ a, K.ev a = op ((s.lo n).ev a) ((t.lo n).ev a)) ∧ n < H.lit ∧ n < K.lit := by
  have key : ∀ v, ∃ H : T, H.Ok ∧ (∀ a, H.ev a = R.ev (upd a n v)) ∧ n < H.lit := fun v => by
    obtain ⟨H, oH, hH⟩ := tree_of (fun a => R.ev (upd a n v)) fun a b h => ev_same oR (upd_congr h)
    refine ⟨H, oH, hH, lit_gt hn oH fun a i u hi => ?_⟩
    rw [hH, hH]
    rcases Nat.lt_or_ge i n with h1 | h1
    · rw [upd_comm a (by omega), hR, hR, ev_upd os (by omega), ev_upd ot (by omega)]
    · obtain rfl : i = n := by omega
      rw [upd_upd]
  obtain ⟨H, oH, hH, lH⟩ := key true
  obtain ⟨K, oK, hK, lK⟩ := key false
  refine ⟨H, K, oH, oK, ?_, fun a => by rw [hH, hR, hi_ev os hs, hi_ev ot ht], fun a => by rw [hK, hR, lo_ev os hs, lo_ev ot ht], lH, lK⟩
  refine ev_eq oR (mk_ok oH oK lH lK) fun a => ?_
  rw [mk_ev]
  have e := upd_self a n
  cases h : a n with
  | true => rw [h] at e; rw [if_pos rfl, hH, e]
  | false => rw [h] at e; rw [if_neg (by simp), hK, e]

/-! ### The table of results -/
theorem nodup_le {α : Type} [DecidableEq α] : ∀ (l m : List α), l.Nodup → (∀ x ∈ l, x ∈ m) → l.length ≤ m.length
  | [], _, _, _ => Nat.zero_le _
  | a :: l, m, hn, hs => by
    obtain ⟨h1, h2⟩ := List.nodup_cons.1 hn
    have hm : a ∈ m := hs a (by simp)
    have := nodup_le l (m.erase a) h2 fun x hx => (List.mem_erase_of_ne (fun e => h1 (by rw [← e]; exact hx))).2 (hs x (by simp [hx]))
    have h3 := List.length_erase_of_mem hm
    have h4 : 0 < m.length := List.length_pos_of_mem hm
    simp only [List.length_cons]
    omega
def pairs (A B : Nat) : List (Nat × Nat) := (List.range A).flatMap fun i => (List.range B).map fun j => (i, j)
theorem pairs_len (A B : Nat) : (pairs A B).length = A * B := by
  unfold pairs
  induction A with
  | zero => simp
  | succ A ih => rw [List.range_succ, List.flatMap_append, List.length_append, ih]; simp [Nat.succ_mul]
theorem mem_pairs {A B : Nat} {z : Nat × Nat} (h1 : z.1 < A) (h2 : z.2 < B) : z ∈ pairs A B := by
  unfold pairs
  rw [List.mem_flatMap]
  exact ⟨z.1, List.mem_range.2 h1, List.mem_map.2 ⟨z.2, List.mem_range.2 h2, rfl⟩⟩
structure Memo (op : Bool → Bool → Bool) (La Lb L : List T) (K : List (Nat × Nat)) (f : Nat × Nat → Option Int) : Prop where
  nd : K.Nodup
  mem : ∀ z, z ∈ K ↔ (f z).isSome = true
  rng : ∀ z ∈ K, z.1 < La.length + 2 ∧ z.2 < Lb.length + 2
  val : ∀ s t R r, inn La s → inn Lb t → R.Ok → (∀ a, R.ev a = op (s.ev a) (t.ev a)) → f (ref La s, ref Lb t) = some r → inn L R ∧ r = ((ref L R : Nat) : Int)
theorem Memo.start (op : Bool → Bool → Bool) (La Lb L : List T) : Memo op La Lb L [] fun _ => none :=
  ⟨List.nodup_nil, by simp, by simp, fun _ _ _ _ _ _ _ _ h => by cases h⟩
theorem Memo.grow {op : Bool → Bool → Bool} {La Lb L : List T} {K : List (Nat × Nat)} {f : Nat × Nat → Option Int} (h : Memo op La Lb L K f) (M : List T) : Memo op La Lb (L ++ M) K f :=
  ⟨h.nd, h.mem, h.rng, fun s t R r h1 h2 h3 h4 h5 => by
    obtain ⟨e1, e2⟩ := h.val s t R r h1 h2 h3 h4 h5
    exact ⟨inn_app e1, by rw [ref_app e1]; exact e2⟩⟩
theorem Memo.put {op : Bool → Bool → Bool} {La Lb L : List T} {K : List (Nat × Nat)} {f : Nat × Nat → Option Int} (h : Memo op La Lb L K f) {s t R : T} (hs : inn La s) (ht : inn Lb t) (oR : R.Ok) (hR : ∀ a, R.ev a = op (s.ev a) (t.ev a)) (iR : inn L R) (hn : f (ref La s, ref Lb t) = none) :
    Memo op La Lb L ((ref La s, ref Lb t) :: K) fun z => if z = (ref La s, ref Lb t) then some ((ref L R : Nat) : Int) else f z := by
  refine ⟨List.nodup_cons.2 ⟨fun hm => ?_, h.nd⟩, fun z => ?_, fun z hz => ?_, fun s' t' R' r h1 h2 h3 h4 h5 => ?_⟩
  · have := (h.mem _).1 hm; rw [hn] at this; cases this
  · by_cases hz : z = (ref La s, ref Lb t)
    · simp [hz]
    · simp only [List.mem_cons, hz, false_or, if_false]; exact h.mem z
  · rcases List.mem_cons.1 hz with rfl | hz
    · exact ⟨ref_lt hs, ref_lt ht⟩
    · exact h.rng z hz
  · split at h5
    · rename_i e
      simp only [Prod.mk.injEq] at e
      obtain rfl := ref_inj h1 hs e.1
      obtain rfl := ref_inj h2 ht e.2
      obtain rfl : R' = R := ev_eq h3 oR fun a => by rw [h4, hR]
      cases h5
      exact ⟨iR, rfl⟩
    · exact h.val s' t' R' r h1 h2 h3 h4 h5
theorem Memo.len {op : Bool → Bool → Bool} {La Lb L : List T} {K : List (Nat × Nat)} {f : Nat × Nat → Option Int} (h : Memo op La Lb L K f) : K.length ≤ (La.length + 2) * (Lb.length + 2) := by
  rw [← pairs_len]
  exact nodup_le _ _ h.nd fun z hz => mem_pairs (h.rng z hz).1 (h.rng z hz).2
theorem Memo.len2 {op : Bool → Bool → Bool} {La Lb L : List T} {K : List (Nat × Nat)} {f : Nat × Nat → Option Int} (h : Memo op La Lb L K f) (hA : La.length ≤ 4095) (hB : Lb.length ≤ 4095) : K.length ≤ 16785409 :=
  Nat.le_trans h.len (Nat.le_trans (Nat.mul_le_mul (show La.length + 2 ≤ 4097 by omega) (show Lb.length + 2 ≤ 4097 by omega)) (by decide))

/-! ### A node is added -/
def nodeL (L : List T) (n : Nat) (H K : T) : List T := if H = K then L else if T.n n H K ∈ L then L else L ++ [.n n H K]
theorem nodeL_app (L : List T) (n : Nat) (H K : T) : ∃ M, nodeL L n H K = L ++ M ∧ M.length ≤ 1 := by
  unfold nodeL; split
  · exact ⟨[], by simp⟩
  · split
    · exact ⟨[], by simp⟩
    · exact ⟨_, rfl, Nat.le_refl _⟩
theorem nodeL_wf {L : List T} {n : Nat} {H K : T} (w : Wf L) (oH : H.Ok) (oK : K.Ok) (lH : n < H.lit) (lK : n < K.lit) (iH : inn L H) (iK : inn L K) : Wf (nodeL L n H K) ∧ inn (nodeL L n H K) (mk n H K) := by
  unfold nodeL mk; split
  · exact ⟨w, iH⟩
  · rename_i hne
    split
    · rename_i hm; exact ⟨w, hm⟩
    · rename_i hm; exact ⟨w.snoc ⟨oH, oK, lH, lK, hne⟩ iH iK hm, List.mem_append_right _ (List.mem_singleton.2 rfl)⟩
theorem node_mem {L : List T} {n : Nat} {H K : T} (w : Wf L) (iH : inn L H) (iK : inn L K) : (n, ref L H, ref L K) ∈ nodes L ↔ T.n n H K ∈ L := by
  constructor
  · intro hm
    obtain ⟨x, hx1, hx2⟩ := List.mem_map.1 hm
    obtain ⟨l', h', k', rfl⟩ := w.nc x hx1
    obtain ⟨b1, b2⟩ := w.kids hx1
    simp only [enc, Prod.mk.injEq] at hx2
    obtain ⟨rfl, e2, e3⟩ := hx2
    rw [ref_inj b1 iH e2, ref_inj b2 iK e3] at hx1
    exact hx1
  · intro hm
    have := List.mem_map_of_mem (f := enc L) hm
    exact this
theorem idxOf_nodes {L : List T} (w : Wf L) {n : Nat} {H K : T} (hm : T.n n H K ∈ L) : (nodes L).idxOf (n, ref L H, ref L K) = L.idxOf (T.n n H K) := by
  have h1 := List.idxOf_lt_length_of_mem hm
  have hm2 : (n, ref L H, ref L K) ∈ nodes L := List.mem_map_of_mem (f := enc L) hm
  have h2 := List.idxOf_lt_length_of_mem hm2
  rw [nodes_length] at h2
  have e1 : (nodes L)[(nodes L).idxOf (n, ref L H, ref L K)]? = some (n, ref L H, ref L K) := by
    rw [List.getElem?_eq_getElem (List.idxOf_lt_length_of_mem hm2)]; simp
  generalize (nodes L).idxOf (n, ref L H, ref L K) = i at *
  have e2 : enc L L[i] = enc L (T.n n H K) := by
    simp only [nodes, List.getElem?_map, List.getElem?_eq_getElem h2, Option.map_some, Option.some.injEq] at e1
    exact e1
  have e3 := enc_inj w (List.getElem_mem h2) hm e2
  have := w.nodup.idxOf_getElem i h2
  rw [e3] at this
  exact this.symm
theorem nodeL_nodes {L : List T} {n : Nat} {H K : T} (w : Wf L) (iH : inn L H) (iK : inn L K) :
    nodeN (nodes L) n (ref L H) (ref L K) = nodes (nodeL L n H K) ∧ nodeR (nodes L) n (ref L H) (ref L K) = ref (nodeL L n H K) (mk n H K) := by
  by_cases e : H = K
  · subst e
    simp [nodeN, nodeR, nodeL, mk]
  · have e2 : ¬ ref L H = ref L K := fun h => e (ref_inj iH iK h)
    unfold nodeN nodeR nodeL mk
    rw [if_neg e, if_neg e, if_neg e2, if_neg e2]
    by_cases hm : T.n n H K ∈ L
    · have hm2 := (node_mem w iH iK).2 hm
      rw [if_pos hm, if_pos hm2, if_pos hm2, idxOf_nodes w hm]
      exact ⟨rfl, rfl⟩
    · have hm2 := fun h => hm ((node_mem w iH iK).1 h)
      rw [if_neg hm, if_neg hm2, if_neg hm2]
      refine ⟨(nodes_snoc w iH iK).symm, ?_⟩
      simp only [ref]
      rw [List.idxOf_append, if_neg hm, nodes_length]
      simp
end Go.Proofs.Ytkppcibffbnhoaa
