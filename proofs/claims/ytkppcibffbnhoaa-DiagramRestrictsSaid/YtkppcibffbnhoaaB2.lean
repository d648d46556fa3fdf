/-
  Plain: which lists of nodes are diagrams.
-/
import Derived.Test.YtkppcibffbnhoaaD1
namespace Go.Proofs.Ytkppcibffbnhoaa

theorem nodes_inj {L M : List T} (wL : Wf L) (wM : Wf M) (hLM : nodes L = nodes M) : L = M := by
  have hlen : L.length = M.length := by rw [← nodes_length, hLM, nodes_length]
  have step : ∀ n, n ≤ L.length → L.take n = M.take n := by
    intro n
    induction n with
    | zero => intro _; simp
    | succ n ih =>
      intro hn
      have e := ih (by omega)
      have hl1 : n < L.length := by omega
      have hl2 : n < M.length := by omega
      rw [List.take_succ_eq_append_getElem hl1, List.take_succ_eq_append_getElem hl2, e]
      obtain ⟨l, h, k, hx⟩ := wL.nc L[n] (List.getElem_mem hl1)
      obtain ⟨l', h', k', hy⟩ := wM.nc M[n] (List.getElem_mem hl2)
      have c1 := wL.closed n l h k (by rw [List.getElem?_eq_getElem hl1, hx])
      have c2 := wM.closed n l' h' k' (by rw [List.getElem?_eq_getElem hl2, hy])
      have g : (nodes L)[n]? = (nodes M)[n]? := by rw [hLM]
      simp only [nodes, List.getElem?_map, List.getElem?_eq_getElem hl1, List.getElem?_eq_getElem hl2, Option.map_some, Option.some.injEq, hx, hy, enc, Prod.mk.injEq] at g
      obtain ⟨rfl, g2, g3⟩ := g
      have rl : ∀ {x : T}, inn (L.take n) x → ref L x = ref (L.take n) x := fun {x} hi => by
        have := ref_app (M := L.drop n) hi; rwa [List.take_append_drop] at this
      have rm : ∀ {x : T}, inn (M.take n) x → ref M x = ref (M.take n) x := fun {x} hi => by
        have := ref_app (M := M.drop n) hi; rwa [List.take_append_drop] at this
      rw [rl c1.1, rm c2.1, e] at g2
      rw [rl c1.2, rm c2.2, e] at g3
      rw [hx, hy, ref_inj (e ▸ c1.1) c2.1 g2, ref_inj (e ▸ c1.2) c2.2 g3]
  have := step L.length (Nat.le_refl _)
  rwa [List.take_length, hlen, List.take_length] at this

theorem Wf.take {M : List T} (w : Wf M) (i : Nat) : Wf (M.take i) := by
  refine ⟨w.nodup.sublist (List.take_sublist _ _), fun t ht => w.ok t (take_mem ht), fun t ht => w.nc t (take_mem ht), fun j l h k hj => ?_⟩
  rw [List.getElem?_take] at hj
  split at hj
  · rename_i hlt
    have := w.closed j l h k hj
    rw [List.take_take, Nat.min_eq_left (by omega)]
    exact this
  · cases hj
theorem ref_take {M : List T} {i : Nat} {x : T} (h : inn (M.take i) x) : ref M x = ref (M.take i) x := by
  have := ref_app (M := M.drop i) h
  rwa [List.take_append_drop] at this
theorem nodes_take {M : List T} (w : Wf M) (i : Nat) : nodes (M.take i) = (nodes M).take i := by
  unfold nodes
  rw [← List.map_take]
  refine List.map_congr_left fun t ht => ?_
  obtain ⟨l, h, k, rfl⟩ := (w.take i).nc t ht
  obtain ⟨h1, h2⟩ := (w.take i).kids ht
  simp only [enc]
  rw [ref_take h1, ref_take h2]

/-- What a node of a diagram is, beside those ahead of it. -/
structure Fit1 (L : List T) (l h k : Nat) : Prop where
  hh : h < L.length + 2
  hk : k < L.length + 2
  ne : h ≠ k
  lh : l < (tr L h).lit
  lk : l < (tr L k).lit
  new : (l, h, k) ∉ nodes L
theorem Fit1.snoc {L : List T} {l h k : Nat} (w : Wf L) (f : Fit1 L l h k) : Wf (L ++ [.n l (tr L h) (tr L k)]) ∧ nodes (L ++ [.n l (tr L h) (tr L k)]) = nodes L ++ [(l, h, k)] := by
  obtain ⟨i1, r1⟩ := tr_inn w f.hh
  obtain ⟨i2, r2⟩ := tr_inn w f.hk
  have okc : ∀ {x : T}, inn L x → x.Ok := fun {x} hx => by
    cases x with
    | c b => trivial
    | n _ _ _ => exact w.ok _ hx
  have ne : tr L h ≠ tr L k := fun e => f.ne (by rw [← r1, ← r2, e])
  have ot : (T.n l (tr L h) (tr L k)).Ok := ⟨okc i1, okc i2, f.lh, f.lk, ne⟩
  have hn := nodes_snoc (l := l) w i1 i2
  rw [r1, r2] at hn
  refine ⟨w.snoc ot i1 i2 fun hm => f.new ?_, hn⟩
  have := List.mem_map_of_mem (f := enc L) hm
  simp only [enc, r1, r2] at this
  exact this
theorem Fit1.of {M L : List T} (wM : Wf M) (wL : Wf L) {i : Nat} (hi : i < M.length) (hL : nodes L = (nodes M).take i) : ∃ l h k, (nodes M)[i]? = some (l, h, k) ∧ L.length = i ∧ Fit1 L l h k := by
  have e : L = M.take i := nodes_inj wL (wM.take i) (by rw [nodes_take wM, hL])
  have hlen : L.length = i := by rw [e, List.length_take]; omega
  obtain ⟨l, h, k, hx⟩ := wM.nc M[i] (List.getElem_mem hi)
  obtain ⟨c1, c2⟩ := wM.closed i l h k (by rw [List.getElem?_eq_getElem hi, hx])
  have hg : (nodes M)[i]? = some (l, ref M h, ref M k) := by
    simp only [nodes, List.getElem?_map, List.getElem?_eq_getElem hi, Option.map_some, hx, enc]
  rw [ref_take c1, ref_take c2] at hg
  rw [← e] at c1 c2 hg
  have ot : (T.n l h k).Ok := hx ▸ wM.ok _ (List.getElem_mem hi)
  refine ⟨l, ref L h, ref L k, hg, hlen, ⟨ref_lt c1, ref_lt c2, fun e2 => ot.2.2.2.2 (ref_inj c1 c2 e2), by rw [tr_ref c1]; exact ot.2.2.1, by rw [tr_ref c2]; exact ot.2.2.2.1, fun hm => ?_⟩⟩
  obtain ⟨x, hx1, hx2⟩ := List.mem_map.1 hm
  obtain ⟨l', h', k', rfl⟩ := wL.nc x hx1
  obtain ⟨b1, b2⟩ := wL.kids hx1
  simp only [enc, Prod.mk.injEq] at hx2
  obtain ⟨rfl, e2, e3⟩ := hx2
  rw [ref_inj b1 c1 e2, ref_inj b2 c2 e3] at hx1
  rw [e, List.mem_take_iff_getElem] at hx1
  obtain ⟨j, hj, hj2⟩ := hx1
  have a1 := wM.nodup.idxOf_getElem j (by omega)
  have a2 := wM.nodup.idxOf_getElem i hi
  rw [hj2, ← hx, a2] at a1
  omega

/-- The numbers are a tree's diagram. -/
def Good (N : List IT) (r : Int) : Prop := ∃ t : T, t.Ok ∧ cN (canonN t) = N ∧ (canonR t : Int) = r
theorem litR_tr {L : List T} {N : List IT} (w : Wf L) (hN : N.take L.length = cN (nodes L)) {r : Nat} (hr : r < L.length + 2) : litR N r = ((tr L r).lit : Int) := by
  unfold litR
  match r, hr with
  | 0, _ => simp [tr, T.lit]
  | 1, _ => simp [tr, T.lit]
  | r + 2, hr =>
    have hl : r < L.length := by omega
    rw [if_neg (by omega), show (((r + 2 : Nat) : Int) - 2).toNat = r by omega]
    have e : tr L (r + 2) = L[r] := by simp only [tr]; rw [List.getD_eq_getElem?_getD, List.getElem?_eq_getElem hl]; rfl
    obtain ⟨l, h, k, hx⟩ := w.nc L[r] (List.getElem_mem hl)
    have h1 : (N.take L.length)[r]? = some (castT (enc L L[r])) := by rw [hN]; simp [cN, nodes, hl]
    rw [List.getElem?_take, if_pos hl] at h1
    rw [List.getD_eq_getElem?_getD, h1, e, hx]
    rfl
theorem Good.at {N : List IT} {r : Int} {L : List T} {i : Nat} (hg : Good N r) (wL : Wf L) (hi : i < N.length) (hL : N.take i = cN (nodes L)) :
    ∃ l h k : Nat, N[i]? = some ((l : Int), (h : Int), (k : Int)) ∧ L.length = i ∧ Fit1 L l h k := by
  obtain ⟨t, ot, rfl, hr⟩ := hg
  obtain ⟨wM, iM⟩ := canon_wf ot
  have hn : nodes L = (nodes (canonL t)).take i := cN_inj (by rw [← hL]; simp only [cN, canonN, List.map_take])
  obtain ⟨l, h, k, h1, h2, h3⟩ := Fit1.of wM wL (by simpa [cN, canonN, nodes] using hi) hn
  exact ⟨l, h, k, by simp only [cN, canonN, List.getElem?_map, h1, Option.map_some, castT], h2, h3⟩
theorem Good.root {N : List IT} {r : Int} (hg : Good N r) : 0 ≤ r ∧ r < N.length + 2 := by
  obtain ⟨t, ot, rfl, rfl⟩ := hg
  obtain ⟨wM, iM⟩ := canon_wf ot
  have := ref_lt iM
  rw [cN_length]
  unfold canonN
  rw [nodes_length]
  show 0 ≤ ((ref (canonL t) t : Nat) : Int) ∧ _
  unfold canonR
  omega
theorem Good.tree {N : List IT} {r : Nat} {L : List T} (hg : Good N r) (wL : Wf L) (hL : N = cN (nodes L)) : canonN (tr L r) = nodes L ∧ canonR (tr L r) = r := by
  obtain ⟨t, ot, h1, h2⟩ := hg
  obtain ⟨wM, iM⟩ := canon_wf ot
  have e : L = canonL t := nodes_inj wL wM (cN_inj (by rw [← hL, ← h1]; rfl))
  have hr : canonR t = r := by omega
  have ht : tr L r = t := by rw [e, ← hr]; exact tr_ref iM
  rw [ht]
  exact ⟨by rw [e]; rfl, hr⟩
/-- How many nodes a tree's diagram has at most. -/
theorem vis_len : ∀ (t : T) (L : List T), (vis t L).length ≤ L.length + t.sz
  | .c _, L => Nat.le_refl _
  | .n l h k, L => by
    simp only [vis]
    split
    · omega
    · have h1 := vis_len h L
      have h2 := vis_len k (vis h L)
      simp only [List.length_append, List.length_singleton, T.sz]
      omega
theorem sz_le : ∀ {t : T}, t.Ok → t.sz + 1 ≤ 2 ^ (12 - t.lit)
  | .c _, _ => by simp [T.sz, T.lit]
  | .n l h k, o => by
    have h1 := sz_le o.1
    have h2 := sz_le o.2.1
    have h3 := lit_lt o
    have e1 : 2 ^ (12 - h.lit) ≤ 2 ^ (11 - l) := Nat.pow_le_pow_right (by omega) (by have := o.2.2.1; omega)
    have e2 : 2 ^ (12 - k.lit) ≤ 2 ^ (11 - l) := Nat.pow_le_pow_right (by omega) (by have := o.2.2.2.1; omega)
    have e3 : 2 ^ (12 - l) = 2 ^ (11 - l) + 2 ^ (11 - l) := by rw [show 12 - l = (11 - l) + 1 by omega, Nat.pow_succ]; omega
    simp only [T.sz, T.lit]
    omega
theorem canon_len {t : T} (o : t.Ok) : (canonN t).length ≤ 4095 := by
  have h1 := vis_len t []
  have h2 := sz_le o
  have h3 : 2 ^ (12 - t.lit) ≤ 2 ^ 12 := Nat.pow_le_pow_right (by omega) (by omega)
  unfold canonN
  rw [nodes_length]
  show (vis t []).length ≤ _
  simp at h1
  omega
end Go.Proofs.Ytkppcibffbnhoaa
