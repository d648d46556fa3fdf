/-
  Walks: Components: what it keeps.
-/
import Derived.Test.YteejlibiidiibaaU3
import Derived.Test.YteejlibiidiibaaH4
import Derived.Test.YteejlibiidiibaaU2
namespace Go.Proofs.Yteejlibiidiibaa
open Go.RowKit
set_option maxRecDepth 100000
/-- Blocks below B are as they were, but for two. -/
structure FX (mb ub B : Nat) (w w' : World) : Prop where
  os : w'.os = w.os
  tape : w'.tape = w.tape
  output : w'.output = w.output
  size : w.heap.size ≤ w'.heap.size
  block : ∀ k, k < B → k ≠ mb → k ≠ ub → w'.heap[k]? = w.heap[k]?
theorem FX.refl (mb ub B : Nat) (w : World) : FX mb ub B w w := ⟨rfl, rfl, rfl, Nat.le_refl _, fun _ _ _ _ => rfl⟩
theorem FX.trans {mb ub B : Nat} {w w1 w2 : World} (h : FX mb ub B w w1) (k : FX mb ub B w1 w2) : FX mb ub B w w2 :=
  ⟨k.os.trans h.os, k.tape.trans h.tape, k.output.trans h.output, Nat.le_trans h.size k.size, fun i h1 h2 h3 => (k.block i h1 h2 h3).trans (h.block i h1 h2 h3)⟩
theorem FX.below {mb ub B L : Nat} {w w' : World} (h : FX mb ub B w w') (h1 : L ≤ mb) (h2 : L ≤ ub) (h3 : L ≤ B) : Below L w w' := ⟨h.os, h.tape, h.output, h.size, fun k hk => h.block k (by omega) (by omega) (by omega)⟩
theorem FX.of_tch {mb ub B b : Nat} {w w' : World} (h : Tch b w w') (hb : b = mb ∨ b = ub ∨ B ≤ b) : FX mb ub B w w' := by
  obtain ⟨o, h⟩ := h
  exact ⟨h.os, h.tape, h.output, by rw [h.size]; exact Nat.le_refl _, fun k h1 h2 h3 => h.other k (by rcases hb with rfl | rfl | hb <;> omega)⟩
theorem FX.of_below {mb ub B : Nat} {w w' : World} (h : Below B w w') : FX mb ub B w w' := ⟨h.os, h.tape, h.output, h.size, fun k h1 _ _ => h.block k h1⟩
theorem FX.drew {mb ub B : Nat} {w w' : World} (h : FX mb ub B w w') : FX mb ub B w w'.drew := ⟨h.os, h.tape, h.output, h.size, h.block⟩
/-- The users' rows. -/
structure UT (w : World) (ub G B : Nat) (f : Nat → List Int) : Prop where
  lt : ub < B
  sz : B ≤ w.heap.size
  ex : ∃ (tc : Array Value) (vs : Nat → Value), w.heap[ub]? = some (.cells tc 22) ∧ (∀ m, m < G → tc[m]? = some (vs m) ∧ w.ownsRow B 3 1 (vs m) (f m).length (ic (f m))) ∧ ∀ m m' g, m < G → m' < G → m ≠ m' → (vs m).ownBlock = some g → (vs m').ownBlock ≠ some g
theorem UT.made {w : World} (G : Nat) : UT (w.alloc (.cells (madeCells #[.slice none 0 0] G) 22)) w.heap.size G (w.heap.size + 1) fun _ => [] := by
  refine ⟨by omega, by simp, _, fun _ => .slice none 0 0, heap_alloc_new w _, fun m hm => ⟨?_, World.ownsRow_nil _ _ _ _⟩, fun m m' g _ _ _ h => by cases h⟩
  simp [madeCells, hm, Nat.mod_one]
theorem UT.cell {w : World} {ub G B : Nat} {f : Nat → List Int} (h : UT w ub G B f) {m : Nat} (hm : m < G) : ∃ v, w.cell? ⟨ub, m, none⟩ = some v ∧ w.ownsRow B 3 1 v (f m).length (ic (f m)) := by
  obtain ⟨tc, vs, h1, h2, _⟩ := h.ex
  obtain ⟨h3, h4⟩ := h2 m hm
  exact ⟨vs m, by simp [World.cell?, h1, h3], h4⟩
theorem UT.free {w : World} {ub G B : Nat} {f : Nat → List Int} (h : UT w ub G B f) (i : Nat) : w.frozen? ⟨ub, i, none⟩ = false := by
  obtain ⟨tc, vs, h1, _⟩ := h.ex
  simp [World.frozen?, h1]
theorem UT.other {w w' : World} {ub G B b : Nat} {f : Nat → List Int} (h : UT w ub G B f) (hb : b < B) (hne : b ≠ ub) (ht : Tch b w w') : UT w' ub G B f := by
  obtain ⟨tc, vs, h1, h2, h3⟩ := h.ex
  obtain ⟨o, hu⟩ := ht
  refine ⟨h.lt, by rw [hu.size]; exact h.sz, tc, vs, (hu.other _ (Ne.symm hne)).trans h1, fun m hm => ⟨(h2 m hm).1, ownsRow_at (h2 m hm).2 fun g hg => hu.other g (by have := ((h2 m hm).2.lt g hg).1; omega)⟩, h3⟩
theorem UT.drew {w : World} {ub G B : Nat} {f : Nat → List Int} (h : UT w ub G B f) : UT w.drew ub G B f := by
  obtain ⟨tc, vs, h1, h2, h3⟩ := h.ex
  exact ⟨h.lt, h.sz, tc, vs, h1, fun m hm => ⟨(h2 m hm).1, ownsRow_at (h2 m hm).2 fun _ _ => rfl⟩, h3⟩
/-- A user is put to a row. -/
theorem UT.push {w w1 w3 : World} {ub G B k : Nat} {f : Nat → List Int} {v v' : Value} {x : Int} (h : UT w ub G B f) (hk : k < G) (hv : w.cell? ⟨ub, k, none⟩ = some v) (h1 : w1 = w.alloc (.cells #[.int .i64 x] 3)) (h2 : Fr [] v v' w1 w3) (h3 : w3.ownsRow B 3 1 v' ((f k).length + 1) (ic (f k) ++ ic [x])) :
    w3.heap[ub]? = w.heap[ub]? ∧ UT (w3.setCell ⟨ub, k, none⟩ v') ub G B (fun m => if m = k then f m ++ [x] else f m) ∧ (∀ q, q < B → w3.heap[q]? = w.heap[q]?) ∧ Below B w w3 ∧ Tch ub w3 (w3.setCell ⟨ub, k, none⟩ v') := by
  obtain ⟨tc, vs, g1, g2, g3⟩ := h.ex
  have hlt := h.lt
  have hsz := h.sz
  have hb1 : Below w.heap.size w w1 := h1 ▸ (Below.refl _ _).alloc (Nat.le_refl _) _
  have hs1 : w.heap.size ≤ w1.heap.size := hb1.size
  have hvk : vs k = v := by
    have := (g2 k hk).1
    simp [World.cell?, g1, this] at hv
    exact hv
  have hown := (g2 k hk).2
  rw [hvk] at hown
  have hB : Below B w w3 := (hb1.mono (by omega)).trans (h2.below (by omega) (by simp) fun g hg => (hown.lt g hg).1)
  have hub := (hB.block ub hlt).trans g1
  have hU := Upd.set (i := k) (v := v') (Upd.refl hub)
  refine ⟨hB.block ub hlt, ⟨hlt, by rw [hU.size]; exact Nat.le_trans hsz hB.size, _, fun m => if m = k then v' else vs m, hU.blk, fun m hm => ?_, fun m m' g hm hm' hne hg => ?_⟩, fun q hq => hB.block q hq, hB, ⟨_, hU⟩⟩
  · have hkl : k < tc.size := (Array.getElem?_eq_some_iff.1 (g2 k hk).1).1
    rw [Array.getElem?_setIfInBounds]
    dsimp only
    by_cases e : m = k
    · subst e
      refine ⟨by simp [hkl], ?_⟩
      rw [if_pos rfl, if_pos rfl, List.length_append, List.length_singleton, show ic (f m ++ [x]) = ic (f m) ++ ic [x] by simp [ic]]
      exact ownsRow_at h3 fun g hg => hU.other g (by have := (h3.lt g hg).1; omega)
    · rw [if_neg (fun e2 => e e2.symm), if_neg e, if_neg e]
      refine ⟨(g2 m hm).1, ?_⟩
      have ho := (g2 m hm).2
      refine ownsRow_at (ownsRow_at (ownsRow_below ho hb1 (Nat.le_refl _)) fun g hg => ?_) fun g hg => hU.other g (by have := (ho.lt g hg).1; omega)
      exact h2.block g (by have := (ho.lt g hg).2; omega) (by simp) fun e3 => g3 m k g hm hk e hg (by rw [hvk]; exact e3)
  · have hnew : ∀ q, q < G → q ≠ k → ∀ g, v'.ownBlock = some g → (vs q).ownBlock ≠ some g := fun q hq hqk g hg e => by
      rcases h2.own with h4 | h4
      · rw [h4] at hg
        exact g3 k q g hk hq (Ne.symm hqk) (by rw [hvk]; exact hg) e
      · have := h4 g hg
        have := ((g2 q hq).2.lt g e).2
        omega
    dsimp only at hg ⊢
    by_cases e : m = k
    · rw [if_pos e] at hg
      rw [if_neg (fun e2 => hne (e.trans e2.symm))]
      exact hnew m' hm' (fun e2 => hne (e.trans e2.symm)) g hg
    · rw [if_neg e] at hg
      by_cases e2 : m' = k
      · rw [if_pos e2]
        exact fun e3 => hnew m hm e g e3 hg
      · rw [if_neg e2]; exact g3 m m' g hm hm' hne hg
/-- The groups' values. -/
theorem GS.vals {w : World} {p : Option Addr} {gr : List (List Int)} (h : GS w p gr.length gr) : ∃ gv : Nat → Value, ∀ k, k < gr.length → ∃ a o, p = some ⟨a, o, none⟩ ∧ a < w.heap.size ∧ w.cell? ⟨a, o + k, none⟩ = some (gv k) ∧ IS w (gv k) (grp gr k) := by
  have h1 : ∀ k : Nat, ∃ v, k < gr.length → ∃ a o, p = some ⟨a, o, none⟩ ∧ a < w.heap.size ∧ w.cell? ⟨a, o + k, none⟩ = some v ∧ IS w v (grp gr k) := fun k => by
    by_cases hk : k < gr.length
    · obtain ⟨a, o, v, h2, h3, h4, h5⟩ := h.at' k hk
      exact ⟨v, fun _ => ⟨a, o, h2, h3, h4, by rw [show grp gr k = gr[k] by simp [grp, hk]]; exact h5⟩⟩
    · exact ⟨.slice none 0 0, fun h => absurd h hk⟩
  exact ⟨fun k => Classical.choose (h1 k), fun k => Classical.choose_spec (h1 k)⟩
/-- What the loops over the heap keep. -/
structure HpS (mb G B rb : Nat) (wh : World) (miss : Nat → Nat) (h : List Int) (v : Value) (w : World) : Prop where
  m : IT w mb G (nI miss)
  r : RY rb B h v w
  f : FX mb mb B wh w
  hp : Heap h h.length
theorem HpS.yf {mb G B rb : Nat} {wh w w' : World} {miss : Nat → Nat} {h h' : List Int} {v v' : Value} (H : HpS mb G B rb wh miss h v w) (hm : mb < B) (hr : RY rb B h' v' w') (hh : Heap h' h'.length) (hf : YF rb B w w') : HpS mb G B rb wh miss h' v' w' :=
  ⟨H.m.at (hf.below.block _ hm), hr, H.f.trans (FX.of_below hf.below), hh⟩
theorem HpS.drew {mb G B rb : Nat} {wh w : World} {miss : Nat → Nat} {h : List Int} {v : Value} (H : HpS mb G B rb wh miss h v w) : HpS mb G B rb wh miss h v w.drew := ⟨H.m.at rfl, H.r.drew, H.f.drew, H.hp⟩
theorem HpS.set {mb G B rb k : Nat} {wh w : World} {miss : Nat → Nat} {h : List Int} {v : Value} (H : HpS mb G B rb wh miss h v w) (hm : mb < B) (hk : k < G) (miss' : Nat → Nat) {y : Int} (e : ∀ q, q < G → nI miss' q = if q = k then y else nI miss q) :
    HpS mb G B rb wh miss' h v (w.setCell ⟨mb, k, none⟩ (.int .i64 y)) ∧ Tch mb w (w.setCell ⟨mb, k, none⟩ (.int .i64 y)) := by
  obtain ⟨h1, o, hu⟩ := H.m.set hk y
  have hB := H.r.lt
  refine ⟨⟨h1.congr e, ⟨(hu.other _ (by omega)).trans H.r.blk, ownsRow_at H.r.own fun g hg => hu.other g (by have := (H.r.own.lt g hg).1; omega), hB, by rw [hu.size]; exact H.r.sz⟩, H.f.trans (FX.of_tch ⟨o, hu⟩ (.inl rfl)), H.hp⟩, o, hu⟩
theorem cnt_mem {G : Nat} : ∀ {l : List Nat}, l.Nodup → (∀ x, x ∈ l → x < G) → cnt G (fun k => decide (k ∈ l)) = l.length
  | [], _, _ => by
    have : cnt G (fun k => decide (k ∈ ([] : List Nat))) = cnt G fun _ => false := by simp
    rw [this]; simp [cnt]
  | x :: l, hn, hl => by
    rw [List.nodup_cons] at hn
    rw [cnt_add (f := fun k => decide (k = x)) (g := fun k => decide (k ∈ l)) (fun k _ => by simp) (fun k _ h1 h2 => by simp at h1 h2; subst h1; exact hn.1 h2), cnt_mem hn.2 fun y hy => hl y (by simp [hy])]
    have hx := hl x (by simp)
    have : cnt G (fun k => decide (k = x)) = 1 := by
      have h1 : ∀ m, cnt m (fun k => decide (k = x)) = if x < m then 1 else 0 := by
        intro m
        induction m with
        | zero => simp [cnt]
        | succ m ih =>
          have s : ∀ Q : Nat → Bool, cnt (m + 1) Q = cnt m Q + if Q m then 1 else 0 := fun Q => by
            simp [cnt, List.range_succ, List.countP_append, List.countP_cons]
          rw [s, ih]
          by_cases e : m = x
          · subst e; simp
          · by_cases e2 : x < m
            · simp [e, e2, show x < m + 1 by omega]
            · simp [e, e2, show ¬ x < m + 1 by omega]
      rw [h1, if_pos hx]
    rw [this]; simp; omega
theorem nodup_len {G : Nat} {l : List Nat} (hn : l.Nodup) (hl : ∀ x, x ∈ l → x < G) : l.length ≤ G := by
  rw [← cnt_mem hn hl]; exact cnt_le _ _
theorem HpS.frout {mb G B rb n : Nat} {wh w w1 w3 : World} {miss : Nat → Nat} {h : List Int} {v u o o' : Value} {xs : List Value} (H : HpS mb G B rb wh miss h v w) (hm : mb < B) (ho : w.ownsRow B 22 1 o n xs) (h1 : w1 = w.alloc (.cells #[u] 22)) (h2 : Fr [] o o' w1 w3) : HpS mb G B rb wh miss h v w3 := by
  have hb1 : Below w.heap.size w w1 := h1 ▸ (Below.refl _ _).alloc (Nat.le_refl _) _
  have hsz := H.r.sz
  have hb : Below B w w3 := (hb1.mono hsz).trans (h2.below (Nat.le_trans hsz hb1.size) (by simp) fun g hg => (ho.lt g hg).1)
  have e : ∀ (k : Nat) (arr : Array Value) (t : TypeId), w.heap[k]? = some (.cells arr t) → t ≠ 22 → w3.heap[k]? = w.heap[k]? := fun k arr t hk ht => by
    have hk1 := (hb1.block k (heap_lt hk)).trans hk
    refine (h2.block k (heap_lt hk1) (by simp) fun e => ?_).trans (hb1.block k (heap_lt hk))
    obtain ⟨_, tc, h4⟩ := own_ty ho e
    rw [hk] at h4; cases h4; exact ht rfl
  refine ⟨H.m.at (hb.block _ hm), ⟨(e _ _ _ H.r.blk (by decide)).trans H.r.blk, ownsRow_at H.r.own fun g hg => ?_, H.r.lt, Nat.le_trans hsz hb.size⟩, H.f.trans (FX.of_below hb), H.hp⟩
  obtain ⟨_, tc, h4⟩ := own_ty H.r.own hg
  exact e _ _ _ h4 (by decide)
theorem hlen_of {n : Nat} {h : List Int} (hn : h.Nodup) (hm : ∀ x, x ∈ h → ∃ i : Nat, i < n ∧ x = (i : Int)) : h.length ≤ n := by
  have h1 : (h.map Int.toNat).Nodup := by
    rw [List.Nodup, List.pairwise_map]
    refine hn.imp_of_mem fun {a b} ha hb hab e => hab ?_
    obtain ⟨i, _, rfl⟩ := hm a ha
    obtain ⟨j, _, rfl⟩ := hm b hb
    simp at e; rw [e]
  have h2 := nodup_len (G := n) h1 (fun x hx => by
    obtain ⟨y, hy, rfl⟩ := List.mem_map.1 hx
    obtain ⟨i, hi, rfl⟩ := hm y hy
    simpa using hi)
  simpa using h2
theorem nI_dec {f : Nat → Nat} {u : Nat} (h : 0 < f u) (q : Nat) : nI (decN f u) q = if q = u then (f u : Int) - 1 else nI f q := by
  unfold nI decN
  by_cases e : q = u
  · subst e; rw [if_pos rfl, if_pos rfl]; omega
  · rw [if_neg e, if_neg e]
theorem KI.pop2 {E : Gr} {of : Nat → Int} {gr : List (List Int)} {dl : List Nat} {miss : Nat → Nat} {h zs : List Int} {x : Int} (K : KI E of gr dl miss h) (H : GA E of gr) (hp : h.Perm (x :: zs)) (hx : ∀ y, y ∈ h → x ≤ y) :
    ∃ i g : Nat, i < E.length ∧ x = (i : Int) ∧ of i = (g : Int) ∧ g < gr.length ∧ g ∉ dl ∧ miss g = 0 ∧ x = fst' gr g ∧ TopoAt E (dl.map (grp gr)) (grp gr g) := by
  obtain ⟨i, h1, h2, h3, h4, h5, h6⟩ := K.pop H hp hx
  exact ⟨i, (of i).toNat, h1, h2, (H.og h1).1, (H.og h1).2, h3, h4, h5, h6⟩
theorem out_keep {w w' : World} {B rb n : Nat} {v : Value} {xs : List Value} (h : w.ownsRow B 22 1 v n xs) (hf : YF rb B w w') (hrb : ∃ u, w.heap[rb]? = some (.cells #[u] 42)) : w'.ownsRow B 22 1 v n xs := ownsRow_at h fun g hg => by
  obtain ⟨_, tc, h4⟩ := own_ty h hg
  obtain ⟨u, hu⟩ := hrb
  exact hf.keep g tc 22 h4 (fun e => by subst e; rw [hu] at h4; cases h4) (.inl (by decide))
end Go.Proofs.Yteejlibiidiibaa
